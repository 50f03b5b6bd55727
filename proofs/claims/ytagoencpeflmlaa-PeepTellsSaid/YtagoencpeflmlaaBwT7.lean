/- Walks of the functions of this claim, and plain laws on what they compute; each theorem tells its own conditions. -/
import Derived.Test.YtagoencpeflmlaaBwT6
namespace Go.Proofs.Ytagoencpeflmlaa
open Go.Bw
set_option linter.unusedVariables false
set_option linter.unusedSimpArgs false

def sameB (cur : List Ins) (k : Nat) (op : Int) : Bool := decide (k < cur.length) && (atI cur k).op == op
def nopI : Ins := ⟨21, 0, 0⟩
def refStepL (mk : List Bool) (code cur : List Ins) (k : Nat) : List Ins :=
  if (sameB cur k 11 || sameB cur k 12) = true then
    (if (within (atI cur k).a 0 ((code.length : Int) - 1) && ((atI cur k).a != (k : Int)) && ((atI code (atI cur k).a.toNat).op == 11)) = true then cur.set k ⟨(atI cur k).op, (atI code (atI cur k).a.toNat).a, (atI cur k).b⟩ else cur)
  else if (sameB cur k 1 && okAt mk cur (k + 1) 1 && okAt mk cur (k + 2) 10 && foldsB (atI cur (k + 2)).a) = true then
    ((cur.set k ⟨21, 0, 0⟩).set (k + 1) ⟨21, 0, 0⟩).set (k + 2) ⟨1, (rmath (atI cur (k + 2)).a (atI cur k).a (atI cur (k + 1)).a).1, 0⟩
  else if (sameB cur k 1 && okAt mk cur (k + 1) 12) = true then
    (if ((atI cur k).a == 0) = true then (cur.set (k + 1) ⟨11, (atI cur (k + 1)).a, 0⟩).set k ⟨21, 0, 0⟩ else (cur.set (k + 1) ⟨21, 0, 0⟩).set k ⟨21, 0, 0⟩)
  else if (sameB cur k 1 && okAt mk cur (k + 1) 9) = true then (cur.set k ⟨21, 0, 0⟩).set (k + 1) ⟨1, bitI ((atI cur k).a == 0), 0⟩
  else if (sameB cur k 1 && okAt mk cur (k + 1) 22) = true then (cur.set k ⟨21, 0, 0⟩).set (k + 1) ⟨1, bitI ((atI cur k).a != 0), 0⟩
  else if (sameB cur k 1 && okAt mk cur (k + 1) 17) = true then (cur.set k ⟨21, 0, 0⟩).set (k + 1) ⟨21, 0, 0⟩
  else cur
theorem thenB1 (mk : List Bool) (cur : List Ins) (k : Nat) (a : Int) : thenB mk cur k [a] = okAt mk cur (k + 1) a := by simp [thenB, List.range_succ]
theorem thenB2 (mk : List Bool) (cur : List Ins) (k : Nat) (a b : Int) : thenB mk cur k [a, b] = (okAt mk cur (k + 1) a && okAt mk cur (k + 2) b) := by simp [thenB, List.range_succ]
theorem okAt_op {mk : List Bool} {cur : List Ins} {m : Nat} {o : Int} (h : okAt mk cur m o = true) : (atI cur m).op = o := by
  unfold okAt at h; simp at h; exact h.2.1
theorem okAt_other {mk : List Bool} {cur : List Ins} {m : Nat} {o p : Int} (h : okAt mk cur m o = true) (hp : o ≠ p) : okAt mk cur m p = false := by
  cases h2 : okAt mk cur m p
  · rfl
  · exact absurd ((okAt_op h).symm.trans (okAt_op h2)) hp
theorem folds_math {op : Int} (a b : Int) (h : foldsB op = true) : mmath op a b = rmath op a b ∧ (mmath op a b).2 = true := by
  unfold foldsB at h
  simp only [Bool.or_eq_true, beq_iff_eq] at h
  rcases h with (((rfl | rfl) | rfl) | rfl) | rfl <;> simp [mmath, rmath]
theorem folds_not {op : Int} (a b : Int) (h : foldsB op = false) : (mmath op a b).2 = false := by
  unfold foldsB at h
  simp only [Bool.or_eq_false_iff] at h
  obtain ⟨⟨⟨⟨h1, h2⟩, h3⟩, h4⟩, h5⟩ := h
  simp [mmath, h1, h2, h3, h4, h5]
theorem refStep_eq {mk : List Bool} {code cur : List Ins} {k : Nat} (hk : k < cur.length) : refStepL mk code cur k = stepL mk code cur k := by
  have hs : ∀ op, sameB cur k op = ((atI cur k).op == op) := fun op => by simp [sameB, hk]
  have hw : within (atI cur k).a 0 ((code.length : Int) - 1) = (decide (0 ≤ (atI cur k).a) && decide ((atI cur k).a < (code.length : Int))) := by
    have : decide ((atI cur k).a ≤ (code.length : Int) - 1) = decide ((atI cur k).a < (code.length : Int)) := by rw [decide_eq_decide]; omega
    simp [within, this]
  unfold refStepL stepL
  simp only [hs, hw]
  by_cases h1 : ((atI cur k).op == 11 || (atI cur k).op == 12) = true
  · simp only [h1, if_true]; rfl
  · rw [if_neg h1, if_neg h1]
    by_cases h2 : ((atI cur k).op == 1) = true
    · simp only [h2, Bool.true_and, if_true]
      unfold pushedL
      simp only [thenB1, thenB2]
      by_cases h3 : (okAt mk cur (k + 1) 1 && okAt mk cur (k + 2) 10) = true
      · have h3a := (bool_split h3).1
        have o12 := okAt_other h3a (p := 12) (by decide)
        have o9 := okAt_other h3a (p := 9) (by decide)
        have o22 := okAt_other h3a (p := 22) (by decide)
        have o17 := okAt_other h3a (p := 17) (by decide)
        simp only [h3, Bool.true_and, if_true, o12, o9, o22, o17, Bool.false_eq_true, if_false]
        by_cases h4 : foldsB (atI cur (k + 2)).a = true
        · obtain ⟨e1, e2⟩ := folds_math (atI cur k).a (atI cur (k + 1)).a h4
          rw [if_pos h4, if_pos e2, e1]; rfl
        · have h4' : foldsB (atI cur (k + 2)).a = false := by simpa using h4
          rw [if_neg h4, if_neg (by simp [folds_not _ _ h4'])]
      · have h3' : (okAt mk cur (k + 1) 1 && okAt mk cur (k + 2) 10) = false := by simpa using h3
        simp only [h3', Bool.false_and, Bool.false_eq_true, if_false]
        by_cases h12 : okAt mk cur (k + 1) 12 = true
        · have o9 := okAt_other h12 (p := 9) (by decide)
          have o22 := okAt_other h12 (p := 22) (by decide)
          simp only [h12, if_true, Bool.true_and, o9, o22, Bool.false_eq_true, if_false, Bool.true_or]
          have hc : ∀ x y : Ins, (cur.set (k + 1) x).set k y = (cur.set k y).set (k + 1) x := fun x y => List.set_comm _ _ (by omega)
          simp only [hc]
          rfl
        · have h12' : okAt mk cur (k + 1) 12 = false := by simpa using h12
          simp only [h12', Bool.false_and, Bool.false_or, Bool.false_eq_true, if_false]
          rfl
    · have h2' : ((atI cur k).op == 1) = false := by simpa using h2
      simp only [h2', Bool.false_and, Bool.false_eq_true, if_false]
theorem na73 : nonAgg Try.prog 73 = true := by kernel_rfl
theorem en37 : Enters Try.prog 37 := enters_of Try.func37 (by kernel_rfl) rfl

theorem same_any (O : View) (b4 N : Nat) (ac : Option Addr) (cc : Nat) (cur : List Ins) (k : Nat) (op : Int) (w : World) (hO : Le O w) (hN : cur.length = N) (h4 : vc O b4 0 = some (.slice ac N cc)) (hc : Sl rdIns 3 O ac cc cur) :
    Calls Try.prog 37 #[.int .i64 (k : Int), .int .i64 op, .pointer (some ⟨b4, 0, none⟩)] w fun e w' => e = .returned (.bool (sameB cur k op)) ∧ Ext w w' := by
  subst hN
  refine enter Try.func37 rfl 19 rfl rfl ?_
  refine WC.world (W' := Ws w [] [] [O]) (fun _ e => by subst e; exact Ws.init (by simp [hO])) ?_
  refine WC.seq ?_
  refine WC.region ?_
  refine WL.val (.inl rfl) rfl (yl_assign rfl) ?_
  refine WL.nil ?_
  refine WE.then_normal ?_
  refine WC.seq ?_
  refine WC.region ?_
  refine WL.val (.inl rfl) rfl (yl_move rfl) ?_
  refine WL.val (.inl rfl) rfl (yl_ld 0 na22 rfl rfl (h4)) ?_
  refine WL.val (.inl rfl) rfl (yl_len es22 rfl) ?_
  refine WL.val (.inl rfl) rfl (yl_lt rfl rfl) ?_
  refine WL.val (.inl rfl) rfl (yl_move rfl) ?_
  apply WL.and 7 rfl rfl rfl rfl (.inl rfl) rfl rfl rfl rfl rfl
  ·
    intro hg0
    have hml : k < cur.length := by simp at hg0; omega
    obtain ⟨pb, po, ha, hrow⟩ := hc.elt _ _ (atI_get hml)
    have hrow : RdC O pb (po + k * 3) (atI cur k).cells := hrow
    refine WL.val (.inr ⟨_, _, _, rfl, rfl, rfl⟩) rfl (yl_ld 0 na22 rfl rfl (h4)) ?_
    refine WL.val (.inr ⟨_, _, _, rfl, rfl, rfl⟩) rfl (yl_move rfl) ?_
    refine WL.val (.inr ⟨_, _, _, rfl, rfl, rfl⟩) rfl (yl_iao es22 rfl rfl ha (by omega)) ?_
    refine WL.val (.inr ⟨_, _, _, rfl, rfl, rfl⟩) rfl (yl_fa fo65_0 rfl) ?_
    refine WL.val (.inr ⟨_, _, _, rfl, rfl, rfl⟩) rfl (yl_ld 0 na3 rfl rfl (hrow 0 _ rfl)) ?_
    refine WL.val (.inr ⟨_, _, _, rfl, rfl, rfl⟩) rfl (yl_move rfl) ?_
    refine WL.val (.inr ⟨_, _, _, rfl, rfl, rfl⟩) rfl (yl_eq rfl rfl) ?_
    exact Got.intro 7 rfl rfl rfl
  refine WL.val (.inl rfl) rfl (yl_assign rfl) ?_
  refine WL.nil ?_
  refine WE.then_normal ?_
  refine WC.ret ?_
  refine WE.ret1 rfl rfl fun w' hw => ?_
  exact ⟨by simp [sameB], hw.fr⟩

theorem plain_any (O : View) (b6 b4 b3 N : Nat) (ac ak : Option Addr) (cc ck : Nat) (cur : List Ins) (mk : List Bool) (k : Nat) (op : Int) (w : World) (hO : Le O w) (hN : cur.length = N) (hlk : mk.length = N) (h6 : vc O b6 0 = some (.func (.func 37) #[] #[.pointer (some ⟨b4, 0, none⟩)])) (h4 : vc O b4 0 = some (.slice ac N cc)) (h3 : vc O b3 0 = some (.slice ak N ck)) (hc : Sl rdIns 3 O ac cc cur) (hmk : Sl rdBool 1 O ak ck mk) :
    Calls Try.prog 38 #[.int .i64 (k : Int), .int .i64 op, .pointer (some ⟨b6, 0, none⟩), .pointer (some ⟨b3, 0, none⟩)] w fun e w' => e = .returned (.bool (okAt mk cur k op)) ∧ Ext w w' := by
  refine enter Try.func38 rfl 18 rfl rfl ?_
  refine WC.world (W' := Ws w [] [] [O]) (fun _ e => by subst e; exact Ws.init (by simp [hO])) ?_
  refine WC.seq ?_
  refine WC.region ?_
  refine WL.val (.inl rfl) rfl (yl_assign rfl) ?_
  refine WL.nil ?_
  refine WE.then_normal ?_
  refine WC.seq ?_
  refine WC.region ?_
  refine WL.val (.inl rfl) rfl (yl_ld 0 na73 rfl rfl (h6)) ?_
  refine WL.val (.inl rfl) rfl (yl_move rfl) ?_
  refine WL.val (.inl rfl) rfl (yl_move rfl) ?_
  refine WL.callvp (.inl rfl) rfl en37 rfl rfl (fun w hw => same_any O b4 N ac cc cur k op _ (hw.vs O (by simp)) hN h4 hc) ?_
  refine WL.val (.inl rfl) rfl (yl_move rfl) ?_
  apply WL.and 5 rfl rfl rfl rfl (.inl rfl) rfl rfl rfl rfl rfl
  ·
    intro hg0
    have hml : k < mk.length := by simp [sameB] at hg0; omega
    obtain ⟨b, hb⟩ : ∃ b, mk[k]? = some b := ⟨_, List.getElem?_eq_getElem (by omega)⟩
    obtain ⟨qb, qo, ha2, hrow2⟩ := hmk.elt _ _ hb
    have hrow2 : vc O qb (qo + k * 1) = some (.bool (mk[k]?.getD true)) := by rw [hb]; exact hrow2
    refine WL.val (.inr ⟨_, _, _, rfl, rfl, rfl⟩) rfl (yl_ld 0 na25 rfl rfl (h3)) ?_
    refine WL.val (.inr ⟨_, _, _, rfl, rfl, rfl⟩) rfl (yl_move rfl) ?_
    refine WL.val (.inr ⟨_, _, _, rfl, rfl, rfl⟩) rfl (yl_iao es25 rfl rfl ha2 (by omega)) ?_
    refine WL.val (.inr ⟨_, _, _, rfl, rfl, rfl⟩) rfl (yl_ld 0 na4 rfl rfl (hrow2)) ?_
    refine WL.val (.inr ⟨_, _, _, rfl, rfl, rfl⟩) rfl (yl_not rfl) ?_
    exact Got.intro 5 rfl rfl rfl
  refine WL.val (.inl rfl) rfl (yl_assign rfl) ?_
  refine WL.nil ?_
  refine WE.then_normal ?_
  refine WC.ret ?_
  refine WE.ret1 rfl rfl fun w' hw => ?_
  exact ⟨by simp [okAt, sameB, Bool.and_assoc], hw.fr⟩

end Go.Proofs.Ytagoencpeflmlaa
