/- Walks of the machine that the compiler hands over, and plain laws on what they compute; each theorem tells its own conditions. -/
import Derived.Test.YtagoencpeflmlaaRows
import Derived.Test.YtagoencpeflmlaaBwM4
import Derived.Test.YtagoencpeflmlaaBw25
namespace Go.Proofs.Ytagoencpeflmlaa
open Go.Bw
set_option linter.unusedVariables false
set_option linter.unusedSimpArgs false

theorem rdI_to (H : View) (b o : Nat) (x : Int) (h : rdI H b o x) : RdC H b o (iv x) := fun j v hj => by
  match j, hj with
  | 0, hj => simp [iv] at hj; subst hj; exact h
  | j + 1, hj => simp [iv] at hj
theorem iv_one (x : Int) : (iv x).all (·.oneCell') = true := rfl
def rdV (H : View) (b o : Nat) (v : Value) : Prop := vc H b o = some v
def rdS (H : View) (b o : Nat) (e : (Option Addr × Nat) × List Int) : Prop := vc H b o = some (.slice e.1.1 e.2.length e.1.2) ∧ Sl rdI 1 H e.1.1 e.1.2 e.2
def totL (ls : List ((Option Addr × Nat) × List Int)) : Nat := (ls.map (·.2.length)).sum
theorem totL_take {ls : List ((Option Addr × Nat) × List Int)} {i : Nat} {x : (Option Addr × Nat) × List Int} (h : ls[i]? = some x) : totL (ls.take (i + 1)) = totL (ls.take i) + x.2.length := by
  simp [totL, List.take_add_one, h]
theorem totL_le (ls : List ((Option Addr × Nat) × List Int)) (i : Nat) : totL (ls.take i) ≤ totL ls := by
  have e : totL ls = totL (ls.take i) + totL (ls.drop i) := by
    unfold totL
    rw [← List.sum_append, ← List.map_append, List.take_append_drop]
  omega
theorem totL_flat (ls : List ((Option Addr × Nat) × List Int)) : (ls.flatMap (·.2)).length = totL ls := by simp [totL, List.length_flatMap]
theorem made_iv (k : Nat) : (madeCells (Value.int IntKind.i64 0).cells (k * 1)) = ((List.replicate k (0 : Int)).flatMap iv).toArray := by
  rw [madeCells_one _ rfl]
  congr 1
  induction k with
  | zero => rfl
  | succ k ih => simp only [List.replicate_succ, List.flatMap_cons, iv]; rw [ih]; rfl
theorem rev_set (x y : MFr) (r : List MFr) : (x :: r).reverse.set r.length y = (y :: r).reverse := by simp [List.set_append]
theorem ui3 : Try.prog.underlying 3 = some (.int .i64) := by kernel_rfl
theorem es149 : elemSz Try.prog 149 = some 1 := by kernel_rfl
theorem en104 : Enters Try.prog 104 := enters_of Try.func104 (by kernel_rfl) rfl

theorem cloneInts_any (H : View) (a : Option Addr) (c : Nat) (l : List Int) (w : World) (hH : Le H w) (hm : Sl rdI 1 H a c l) (hb : l.length * 8 ≤ 140737488355328) :
    Calls Try.prog 62 #[.slice a l.length c] w fun e w' => ∃ r : Option Addr × Nat, e = .returned (.slice r.1 l.length r.2) ∧ Ext w w' ∧ Sl rdI 1 (nv w w') r.1 r.2 l := by
  have hcap := hm.cap
  have hmax := hm.max
  refine enter Try.func62 rfl 8 rfl rfl ?_
  refine WC.world (W' := Ws w [] [] [H]) (fun _ e => by subst e; exact Ws.init (by simp [hH])) ?_
  refine WC.seq ?_
  refine WC.region ?_
  refine WL.val (.inl rfl) rfl (yl_assign rfl) ?_
  refine WL.nil ?_
  refine WE.then_normal ?_
  refine WC.seq ?_
  refine WC.seq ?_
  refine WC.region ?_
  refine WL.val (.inl rfl) rfl (yl_move rfl) ?_
  refine WL.val (.inl rfl) rfl (yl_eqnil es50 rfl) ?_
  refine WL.nil ?_
  refine WE.then_normal ?_
  refine WC.cond rfl (fun hc0 => ?_) (fun hc0 => ?_)
  ·
    have hnil : l = [] := by
      cases l with
      | nil => rfl
      | cons x r => obtain ⟨b, o, h, _⟩ := hm.elt 0 x rfl; rw [h] at hc0; cases hc0
    refine WC.seq ?_
    refine WC.region ?_
    refine WL.val (.inl rfl) rfl (yl_assign rfl) ?_
    refine WL.nil ?_
    refine WE.then_normal ?_
    refine WC.ret ?_
    refine WE.then_ret ?_
    refine WE.ret1 rfl rfl fun w' hw => ?_
    subst hnil
    exact ⟨(none, 0), rfl, hw.fr, Sl.nil⟩
  ·
    refine WC.skip ?_
    refine WE.then_normal ?_
    refine WC.seq ?_
    refine WC.region ?_
    refine WL.bslice (.inl rfl) rfl el50 rfl rfl rfl fun b5 => ?_
    refine WL.asOsl (size := 1) 0 rfl (Nat.le_refl 0) (Nat.zero_le _) rfl ?_
    refine WL.reosl 0 ([] : List Int).length (([] : List Int).flatMap iv) rfl rfl rfl ?_
    refine WL.val (.inl rfl) rfl (yl_move rfl) ?_
    refine WL.appendL (ys := l) (xs := []) 0 (fun _ => H) (.inl rfl) rfl el50 rfl rfl rfl (fun w hw => ⟨hw.vs H (by simp), hm⟩) rdI_to iv_len iv_one (by simp; omega) (by simp; omega) fun a7 c7 => ?_
    refine WL.val (.inl rfl) rfl (yl_assign rfl) ?_
    refine WL.nil ?_
    refine WE.then_normal ?_
    refine WC.ret ?_
    refine WE.ret1 rfl rfl fun w' hw => ?_
    exact ⟨(a7, c7), rfl, hw.fr, hw.slT 0 rfl iv_len rdI_of⟩

theorem growInts_any (m : Nat) (w : World) (hm : m ≤ 1048576) :
    Calls Try.prog 104 #[.slice none 0 0, .int .i64 (m : Int)] w fun e w' => ∃ r : Option Addr × Nat, e = .returned (.slice r.1 ([] : List Int).length r.2) ∧ Ws w [] [osT 3 1 iv r.1 r.2 ([] : List Int)] [] w' := by
  refine enter Try.func104 rfl 27 rfl rfl ?_
  refine WC.world (W' := Ws w [] [] []) (fun _ e => by subst e; exact Ws.init (by simp)) ?_
  refine WC.seq ?_
  refine WC.region ?_
  refine WL.val (.inl rfl) rfl (yl_assign rfl) ?_
  refine WL.nil ?_
  refine WE.then_normal ?_
  refine WC.seq ?_
  refine WC.seq ?_
  refine WC.region ?_
  refine WL.val (.inl rfl) rfl (yl_move rfl) ?_
  refine WL.val (.inl rfl) rfl (yl_lt rfl rfl) ?_
  refine WL.nil ?_
  refine WE.then_normal ?_
  refine WC.cond rfl (fun hc0 => ?_) (fun hc0 => ?_)
  ·
    exfalso
    simp at hc0
    omega
  ·
    refine WC.skip ?_
    refine WE.then_normal ?_
    refine WC.seq ?_
    refine WC.seq ?_
    refine WC.region ?_
    refine WL.val (.inl rfl) rfl (yl_move rfl) ?_
    refine WL.val (.inl rfl) rfl (yl_move rfl) ?_
    refine WL.val (.inl rfl) rfl (yl_cap es50 rfl) ?_
    refine WL.val (.inl rfl) rfl (yl_move rfl) ?_
    refine WL.val (.inl rfl) rfl (yl_len es50 rfl) ?_
    refine WL.val (.inl rfl) rfl (yl_subv 0 rfl rfl (by simp) (by omega)) ?_
    refine WL.val (.inl rfl) rfl (yl_subv (m : Int) rfl rfl (by simp) (by omega)) ?_
    refine WL.val (.inl rfl) rfl (yl_assign rfl) ?_
    refine WL.nil ?_
    refine WE.then_normal ?_
    refine WC.seq ?_
    refine WC.region ?_
    refine WL.val (.inl rfl) rfl (yl_move rfl) ?_
    refine WL.val (.inl rfl) rfl (yl_gt rfl rfl) ?_
    refine WL.nil ?_
    refine WE.then_normal ?_
    refine WC.cond rfl (fun hc1 => ?_) (fun hc1 => ?_)
    ·
      have h0 : 0 < m := by simp at hc1; omega
      refine WC.region ?_
      refine WL.val (.inl rfl) rfl (yl_move rfl) ?_
      refine WL.val (.inl rfl) rfl (yl_move rfl) ?_
      refine WL.val (.inl rfl) rfl (yl_cap es50 rfl) ?_
      refine WL.val (.inl rfl) rfl (yl_slhn 0 es50 rfl (by simp) rfl rfl (Nat.zero_le _)) ?_
      refine WL.val (.inl rfl) rfl (yl_move rfl) ?_
      refine WL.zeros m (.inl rfl) rfl el50 ui3 rfl rfl h0 (by unfold maxLen; omega) (by omega) fun b22 c22 cur22 hc22 hcm22 hcs22 => ?_
      refine WL.asOsl (m := 0) (cap := c22) (size := 1) 0 rfl (Nat.zero_le _) hcm22 (by rw [hcs22, Nat.mul_one]) ?_
      refine WL.reosl 0 ([] : List Int).length (([] : List Int).flatMap iv) rfl rfl (by simp) ?_
      refine WL.val (.inl rfl) rfl (yl_move rfl) ?_
      refine WL.val (.inl rfl) rfl (yl_len es50 rfl) ?_
      refine WL.val (.inl rfl) rfl (yl_slhn ([] : List Int).length es50 rfl (by simp) rfl rfl (Nat.zero_le _)) ?_
      refine WL.val (.inl rfl) rfl (yl_assign rfl) ?_
      refine WL.nil ?_
      refine WE.then_normal ?_
      refine WC.seq ?_
      refine WC.region ?_
      refine WL.val (.inl rfl) rfl (yl_move rfl) ?_
      refine WL.val (.inl rfl) rfl (yl_assign rfl) ?_
      refine WL.nil ?_
      refine WE.then_normal ?_
      refine WC.ret ?_
      refine WE.ret1 rfl rfl fun w' hw => ?_
      exact ⟨(some ⟨b22, 0, none⟩, c22), rfl, hw⟩
    ·
      refine WC.skip ?_
      refine WE.then_normal ?_
      refine WC.seq ?_
      refine WC.region ?_
      refine WL.val (.inl rfl) rfl (yl_move rfl) ?_
      refine WL.val (.inl rfl) rfl (yl_assign rfl) ?_
      refine WL.nil ?_
      refine WE.then_normal ?_
      refine WC.ret ?_
      refine WE.ret1 rfl rfl fun w' hw => ?_
      exact ⟨(none, 0), rfl, hw.osl_nil 3 1⟩

theorem concatInts_any (H : View) (a : Option Addr) (c : Nat) (ls : List ((Option Addr × Nat) × List Int)) (w : World) (hH : Le H w) (hm : Sl rdS 1 H a c ls) (hb : totL ls ≤ 1048576) (hls : ls.length ≤ 1048576) :
    Calls Try.prog 102 #[.slice a ls.length c] w fun e w' => ∃ r : Option Addr × Nat, e = .returned (.slice r.1 (ls.flatMap (·.2)).length r.2) ∧ Ws w [] [osT 3 1 iv r.1 r.2 (ls.flatMap (·.2))] [H] w' := by
  have hcap := hm.cap
  have hmax := hm.max
  refine enter Try.func102 rfl 36 rfl rfl ?_
  refine WC.world (W' := Ws w [] [] [H]) (fun _ e => by subst e; exact Ws.init (by simp [hH])) ?_
  refine WC.seq ?_
  refine WC.region ?_
  refine WL.val (.inl rfl) rfl (yl_assign rfl) ?_
  refine WL.nil ?_
  refine WE.then_normal ?_
  refine WC.seq ?_
  refine WC.region ?_
  refine WL.val (.inl rfl) rfl (yl_assign rfl) ?_
  refine WL.nil ?_
  refine WE.then_normal ?_
  refine WC.seq ?_
  refine WC.seq ?_
  refine WC.region ?_
  refine WL.val (.inl rfl) rfl (yl_move rfl) ?_
  refine WL.val (.inl rfl) rfl (yl_len es149 rfl) ?_
  refine WL.val (.inl rfl) rfl (yl_move rfl) ?_
  refine WL.nil ?_
  refine WE.then_normal ?_
  refine WC.block ?_
  refine WC.loopW (ι := Nat) (fun i => [(11, .int .i64 (i : Int)), (3, .int .i64 (totL (ls.take i) : Int))]) [(0, _), (2, _), (9, _), (10, _)] (fun i => i ≤ ls.length) (fun i => ls.length - i) 0 (Nat.zero_le _) (sc rfl (sc rfl (sc rfl (sc rfl (sc rfl (sc rfl sn)))))) ?_
  intro i hi
  refine WC.seq ?_
  refine WC.region ?_
  refine WL.val (.inl rfl) rfl (yl_lt rfl rfl) ?_
  refine WL.nil ?_
  refine WE.then_normal ?_
  refine WC.seq ?_
  refine WC.cond rfl (fun hc0 => ?_) (fun hc0 => ?_)
  ·
    have hlt : i < ls.length := by simpa using hc0
    obtain ⟨x, hx⟩ : ∃ x, ls[i]? = some x := ⟨_, List.getElem?_eq_getElem hlt⟩
    obtain ⟨pb, po, ha, hrow, hxs⟩ := hm.elt i x hx
    have htk := totL_take hx
    have htl := totL_le ls (i + 1)
    refine WC.skip ?_
    refine WE.then_normal ?_
    refine WC.seq ?_
    refine WC.block ?_
    refine WC.seq ?_
    refine WC.region ?_
    refine WL.val (.inl rfl) rfl (yl_iao es149 rfl rfl ha (by omega)) ?_
    refine WL.val (.inl rfl) rfl (yl_ld 0 na50 rfl rfl (hrow)) ?_
    refine WL.val (.inl rfl) rfl (yl_assign rfl) ?_
    refine WL.nil ?_
    refine WE.then_normal ?_
    refine WC.seq ?_
    refine WC.region ?_
    refine WL.val (.inl rfl) rfl (yl_move rfl) ?_
    refine WL.val (.inl rfl) rfl (yl_move rfl) ?_
    refine WL.val (.inl rfl) rfl (yl_len es50 rfl) ?_
    refine WL.val (.inl rfl) rfl (yl_addn (a := totL (ls.take i)) (b := x.2.length) rfl rfl rfl rfl (by omega)) ?_
    refine WL.val (.inl rfl) rfl (yl_assign rfl) ?_
    refine WL.nil ?_
    refine WE.then_normal ?_
    refine WC.seq ?_
    refine WC.region ?_
    refine WL.val (.inl rfl) rfl (yl_move rfl) ?_
    refine WL.val (.inl rfl) rfl (yl_lt rfl rfl) ?_
    refine WL.nil ?_
    refine WE.then_normal ?_
    refine WC.cond rfl (fun hc1 => ?_) (fun hc1 => ?_)
    ·
      exfalso
      simp at hc1
      omega
    ·
      refine WC.skip ?_
      refine WE.block_normal ?_
      refine WE.then_normal ?_
      refine WC.region ?_
      refine WL.val (.inl rfl) rfl (yl_inc rfl rfl rfl (by omega)) ?_
      refine WL.val (.inl rfl) rfl (yl_move rfl) ?_
      refine WL.nil ?_
      rw [← htk]
      exact WE.again (i + 1) (by omega) (by omega) (sc rfl (sc rfl (sc rfl (sc rfl (sc rfl (sc rfl sn)))))) (fun _ h => h)
  ·
    have hie : i = ls.length := by simp at hc0; omega
    subst hie
    rw [List.take_length]
    refine WC.exit ?_
    refine WE.then_exit ?_
    refine WE.then_exit ?_
    refine WE.block_hit ?_
    refine WE.then_normal ?_
    refine WC.seq ?_
    refine WC.region ?_
    refine WL.val (.inl rfl) rfl (yl_move rfl) ?_
    refine WL.callw (ι := Option Addr × Nat) [] _ (.inl rfl) rfl en104 rfl rfl (fun r => .slice r.1 ([] : List Int).length r.2) (fun r => [osT 3 1 iv r.1 r.2 ([] : List Int)]) (fun _ => True) [] (by simp) (fun w hw => (growInts_any (totL ls) w hb).mono fun e w' ⟨r, h1, h2⟩ => ⟨r, h1, trivial, h2⟩) ?_
    intro r24 _
    refine WL.val (.inl rfl) rfl (yl_assign rfl) ?_
    refine WL.nil ?_
    refine WE.then_normal ?_
    refine WC.seq ?_
    refine WC.seq ?_
    refine WC.region ?_
    refine WL.val (.inl rfl) rfl (yl_move rfl) ?_
    refine WL.val (.inl rfl) rfl (yl_len es149 rfl) ?_
    refine WL.val (.inl rfl) rfl (yl_move rfl) ?_
    refine WL.nil ?_
    refine WE.then_normal ?_
    refine WC.block ?_
    refine WC.loopK (ι := Nat × Option Addr × Nat) (fun g => [(27, .int .i64 (g.1 : Int)), (6, .slice g.2.1 ((ls.take g.1).flatMap (·.2)).length g.2.2)]) [(2, _), (25, _), (26, _)] (fun g => Ws w [] [osT 3 1 iv g.2.1 g.2.2 ((ls.take g.1).flatMap (·.2))] [H]) (fun g => g.1 ≤ ls.length) (fun g => ls.length - g.1) (0, r24.1, r24.2) (Nat.zero_le _) (sc rfl (sc rfl (sc rfl (sc rfl (sc rfl sn))))) (fun _ h => h) ?_
    intro g hi
    refine WC.seq ?_
    refine WC.region ?_
    refine WL.val (.inl rfl) rfl (yl_lt rfl rfl) ?_
    refine WL.nil ?_
    refine WE.then_normal ?_
    refine WC.seq ?_
    refine WC.cond rfl (fun hc2 => ?_) (fun hc2 => ?_)
    ·
      have hlt : g.1 < ls.length := by simpa using hc2
      obtain ⟨x, hx⟩ : ∃ x, ls[g.1]? = some x := ⟨_, List.getElem?_eq_getElem hlt⟩
      obtain ⟨pb, po, ha, hrow, hxs⟩ := hm.elt g.1 x hx
      have htk := totL_take hx
      have htl := totL_le ls (g.1 + 1)
      refine WC.skip ?_
      refine WE.then_normal ?_
      refine WC.seq ?_
      refine WC.block ?_
      refine WC.seq ?_
      refine WC.region ?_
      refine WL.val (.inl rfl) rfl (yl_iao es149 rfl rfl ha (by omega)) ?_
      refine WL.val (.inl rfl) rfl (yl_ld 0 na50 rfl rfl (hrow)) ?_
      refine WL.val (.inl rfl) rfl (yl_assign rfl) ?_
      refine WL.nil ?_
      refine WE.then_normal ?_
      refine WC.region ?_
      refine WL.val (.inl rfl) rfl (yl_move rfl) ?_
      refine WL.val (.inl rfl) rfl (yl_move rfl) ?_
      refine WL.appendL (xs := (ls.take g.1).flatMap (·.2)) (ys := x.2) 0 (fun _ => H) (.inl rfl) rfl el50 rfl rfl rfl (fun w hw => ⟨hw.vs H (by simp), hxs⟩) rdI_to iv_len iv_one (by rw [totL_flat]; omega) (by rw [totL_flat]; omega) fun a33 c33 => ?_
      rw [show ((ls.take g.1).flatMap (·.2)) ++ x.2 = (ls.take (g.1 + 1)).flatMap (·.2) by rw [List.take_add_one, hx]; simp]
      refine WL.val (.inl rfl) rfl (yl_assign rfl) ?_
      refine WL.nil ?_
      refine WE.block_normal ?_
      refine WE.then_normal ?_
      refine WC.region ?_
      refine WL.val (.inl rfl) rfl (yl_inc rfl rfl rfl (by omega)) ?_
      refine WL.val (.inl rfl) rfl (yl_move rfl) ?_
      refine WL.nil ?_
      exact WE.again ((g.1 + 1, a33, c33) : Nat × Option Addr × Nat) (by first | omega | (dsimp only; omega)) (by first | omega | (dsimp only; omega)) (sc rfl (sc rfl (sc rfl (sc rfl (sc rfl sn))))) (fun _ h => h)
    ·
      have hie : g.1 = ls.length := by simp at hc2; omega
      refine WC.exit ?_
      refine WE.then_exit ?_
      refine WE.then_exit ?_
      refine WE.block_hit ?_
      refine WE.then_normal ?_
      refine WC.seq ?_
      refine WC.region ?_
      refine WL.val (.inl rfl) rfl (yl_move rfl) ?_
      refine WL.val (.inl rfl) rfl (yl_assign rfl) ?_
      refine WL.nil ?_
      refine WE.then_normal ?_
      refine WC.ret ?_
      refine WE.ret1 rfl rfl fun w' hw => ?_
      rw [hie, List.take_length] at hw
      rw [hie, List.take_length]
      exact ⟨(g.2.1, g.2.2), rfl, hw⟩

end Go.Proofs.Ytagoencpeflmlaa
