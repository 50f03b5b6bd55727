/- Own base: rules that step through the code of a function, with what is known of its slots and of the memory kept as a list; no condition. -/
import Derived.Test.YtcjloelhjnnhmaaDoorBw4
namespace Go.Bw
open Go Go.RowKit

section
variable {P : Program} {ops : Array Oper} {Q : Exit → Act → World → Prop} {n : Nat} {ds : List Deferred} {l : List (Nat × Value)} {W : World → Prop} {w0 : World} {F : List Nat} {L : List Asr} {Vs : List View}

/-! ### Guards: '&&', '||' -/
def freshB (us l : List (Nat × Value)) : Bool := us.all fun p => (lk l p.1).isNone
theorem lk_fresh {us : List (Nat × Value)} (hf : freshB us l = true) {t : Nat} {u : Value} (hu : lk l t = some u) : lk (us ++ l) t = some u := by
  induction us with
  | nil => exact hu
  | cons p r ih =>
    obtain ⟨k, v⟩ := p
    simp only [freshB, List.all_cons, Bool.and_eq_true] at hf
    simp only [List.cons_append, lk]
    cases hb : Nat.beq k t with
    | false => exact ih hf.2
    | true =>
      have := Nat.eq_of_beq_eq_true hb
      subst this
      have hn := hf.1
      rw [hu] at hn
      cases hn
theorem Ag.forget {a : Act} {us : List (Nat × Value)} (h : Ag n ds (us ++ l) a) (hf : freshB us l = true) : Ag n ds l a :=
  ⟨h.size, h.defs, fun t u hu => h.vals t u (lk_fresh hf hu)⟩
theorem Ag.forget' {a : Act} {l' : List (Nat × Value)} (m : Nat) (h : Ag n ds l' a) (hd : l'.drop m = l) (hf : freshB (l'.take m) l = true) : Ag n ds l a := by
  subst hd
  rw [← List.take_append_drop m l'] at h
  exact h.forget hf

/-- Operations none of which is wanted. -/
def allSkip (ops : Array Oper) : List (Nat × Value) → List Oper → Option (List (Nat × Value))
  | l, [] => some l
  | l, o :: r => match o.guard, o.dst with
    | some (j, b), some d => match (ops[j]?).bind (·.dst) with
      | some dj => match lk l dj with
        | some (.bool b') => bif (b' != b) then allSkip ops ((d, undef) :: l) r else none
        | some (.tuple _) => allSkip ops ((d, undef) :: l) r
        | _ => none
      | none => none
    | _, _ => none
def inB (n : Nat) (os : List Oper) : Bool := os.all fun o => match o.dst with | some d => Nat.blt d n | none => true
theorem getD_get {a : Act} {l : List (Nat × Value)} (ha : Ag n ds l a) {t : Nat} {v : Value} (h : lk l t = some v) (hv : v ≠ undef ∨ t < n) : a.tmps[t]? = some v := by
  have h1 := ha.vals t v h
  rw [Array.getD_eq_getD_getElem?] at h1
  rcases Nat.lt_or_ge t a.tmps.size with hlt | hge
  · rw [Array.getElem?_eq_getElem hlt] at h1 ⊢
    simpa using h1
  · rw [Array.getElem?_eq_none hge] at h1
    rcases hv with hv | hv
    · exact absurd (by simpa using h1.symm) hv
    · rw [ha.size] at hge; omega
theorem WL.skips {gs rest : List Oper} {l2 : List (Nat × Value)} : ∀ {l : List (Nat × Value)}, allSkip ops l gs = some l2 → inB n gs = true → (∀ a w, Ag n ds l2 a → W w → wpList P ops Q rest a w) →
    ∀ a w, Ag n ds l a → W w → wpList P ops Q (gs ++ rest) a w := by
  induction gs with
  | nil => intro l hs _ h a w ha hw; simp [allSkip] at hs; subst hs; exact h a w ha hw
  | cons o r ih =>
    intro l hs hin h a w ha hw
    simp only [allSkip] at hs
    simp only [inB, List.all_cons, Bool.and_eq_true] at hin
    have key : ∀ d, o.dst = some d → Region.wanted o (yielded ops a.tmps) = false → allSkip ops ((d, undef) :: l) r = some l2 → wpList P ops Q (o :: r ++ rest) a w := by
      intro d hd hw' hs'
      have hdn : Nat.blt d n = true := by have := hin.1; rw [hd] at this; exact this
      simp only [List.cons_append, wpList, hw']
      rw [hd]
      exact ih hs' hin.2 h _ _ (ha.put hdn undef) hw
    cases hg : o.guard with
    | none => simp [hg] at hs
    | some jb =>
      obtain ⟨j, b⟩ := jb
      cases hd : o.dst with
      | none => simp [hg, hd] at hs
      | some d =>
        simp only [hg, hd] at hs
        cases hj : (ops[j]?).bind (·.dst) with
        | none => simp [hj] at hs
        | some dj =>
          simp only [hj] at hs
          cases hl : lk l dj with
          | none => simp [hl] at hs
          | some v =>
            simp only [hl] at hs
            have hv := ha.vals dj v hl
            cases v with
            | bool b' =>
              cases hb : (b' != b) with
              | false => simp [hb] at hs
              | true =>
                simp only [hb, cond_true] at hs
                refine key d hd ?_ hs
                have hget := getD_get ha hl (.inl (by simp [undef]))
                have hy : yielded ops a.tmps j = some b' := by simp [yielded, hj, hget]
                simp only [Region.wanted, hg, hy]
                cases b <;> cases b' <;> first | rfl | (simp at hb)
            | tuple vs =>
              refine key d hd ?_ hs
              have hy : yielded ops a.tmps j = none := by
                simp only [yielded, hj, Option.bind_some]
                rw [Array.getD_eq_getD_getElem?] at hv
                cases ht : a.tmps[dj]? with
                | none => rfl
                | some u => simp [ht] at hv; simp [hv]
              simp [Region.wanted, hg, hy]
            | _ => simp at hs
theorem wpList_append {gs rest : List Oper} : ∀ (a : Act) (w : World), wpList P ops (Exit.then (wpList P ops Q rest) Q) gs a w → wpList P ops Q (gs ++ rest) a w := by
  induction gs with
  | nil => intro a w h; exact h
  | cons o r ih =>
    intro a w h
    simp only [List.cons_append, wpList] at h ⊢
    split
    · rename_i hw
      rw [if_pos hw] at h
      rcases h with h | ⟨h1, a2, w2, h2⟩
      · left
        unfold Oper.wp at h ⊢
        unfold Oper.upon at h ⊢
        split at h
        all_goals first
          | exact ih _ _ h
          | exact h
          | (refine h.mono fun e w' he => ?_
             cases e with
             | returned v => exact ih _ _ he
             | panicked ch => exact he
             | outgrown => obtain ⟨a3, w3, h3⟩ := he; exact ⟨a3, w3, h3⟩)
          | exact h.mono fun v w' he => ih _ _ he
      · exact .inr ⟨h1, a2, w2, h2⟩
    · rename_i hw
      rw [if_neg hw] at h
      exact ih _ _ h
theorem wpList_mono {Q' : Exit → Act → World → Prop} (hq : ∀ e a w, Q e a w → Q' e a w) {gs : List Oper} : ∀ (a : Act) (w : World), wpList P ops Q gs a w → wpList P ops Q' gs a w := by
  induction gs with
  | nil => intro a w h; exact hq _ _ _ h
  | cons o r ih =>
    intro a w h
    simp only [wpList] at h ⊢
    split
    · rename_i hw
      rw [if_pos hw] at h
      rcases h with h | ⟨h1, a2, w2, h2⟩
      · left
        unfold Oper.wp at h ⊢
        unfold Oper.upon at h ⊢
        split at h
        all_goals first
          | exact ih _ _ h
          | exact hq _ _ _ h
          | exact h
          | (refine h.mono fun e w' he => ?_
             cases e with
             | returned v => exact ih _ _ he
             | panicked ch => exact hq _ _ _ he
             | outgrown => obtain ⟨a3, w3, h3⟩ := he; exact ⟨a3, w3, hq _ _ _ h3⟩)
          | exact h.mono fun v w' he => ih _ _ he
      · exact .inr ⟨h1, a2, w2, hq _ _ _ h2⟩
    · rename_i hw
      rw [if_neg hw] at h
      exact ih _ _ h
/-- Behind the guarded operations: the slot holds this; the rest is as it was. -/
def Got (Q : Exit → Act → World → Prop) (n : Nat) (ds : List Deferred) (l : List (Nat × Value)) (W : World → Prop) (dx : Nat) (x : Value) : Exit → Act → World → Prop :=
  Exit.then (fun a w => (Ag n ds l a ∧ a.tmps.getD dx undef = x) ∧ W w) Q
theorem Got.intro {l' : List (Nat × Value)} {dx : Nat} {x : Value} (m : Nat) (hx : lk l' dx = some x) (hd : l'.drop m = l) (hf : freshB (l'.take m) l = true) : WL P ops (Got Q n ds l W dx x) n ds l' W [] :=
  fun a w ha hw => ⟨⟨ha.forget' m hd hf, ha.vals _ _ hx⟩, hw⟩
theorem Ag.known {a : Act} (h : Ag n ds l a) {d : Nat} {v : Value} (hv : lk l d = some v) : Ag n ds ((d, v) :: l) a :=
  ⟨h.size, h.defs, fun t u hu => by
    simp only [lk] at hu
    cases hb : Nat.beq d t with
    | true =>
      rw [hb] at hu
      have := Nat.eq_of_beq_eq_true hb
      subst this
      simp at hu; subst hu
      exact h.vals _ _ hv
    | false => rw [hb] at hu; exact h.vals t u hu⟩
theorem Ag.known' {a : Act} {d : Nat} {v : Value} (h : Ag n ds ((d, v) :: l) a) (hv : lk l d = some v) : Ag n ds l a :=
  ⟨h.size, h.defs, fun t u hu => by
    refine h.vals t u ?_
    simp only [lk]
    cases hb : Nat.beq d t with
    | true =>
      have := Nat.eq_of_beq_eq_true hb
      subst this
      rw [hv] at hu
      simpa using hu
    | false => exact hu⟩
/-- 'c && x' (want: true), 'c || x' (want: false): the operations of x run only where c wants it. -/
theorem WL.logic (m : Nat) {os : List Oper} {dj dp dx : Nat} (want : Bool) {c x : Bool} {t a b : Operand} {ty : TypeId} {pos : String} {af : Array Edge} {g : Option (Nat × Bool)} {l2 : List (Nat × Value)}
    (hp : os[m]? = some ⟨some dp, .pick t a b, ty, pos, af, g⟩) (htj : t = .tmp dj) (hb : lk l dj = some (.bool c)) (hin : inB n (os.take m) = true)
    (hg : GOk ops l g) (hdp : Nat.blt dp n = true)
    (hab : (a, b) = (bif want then (Operand.tmp dx, Operand.const (.bool false)) else (Operand.const (.bool true), Operand.tmp dx)))
    (hF : allSkip ops ((dj, .bool (!want)) :: l) (os.take m) = some l2) (hF1 : l2.drop m = (dj, .bool (!want)) :: l) (hF2 : freshB (l2.take m) ((dj, .bool (!want)) :: l) = true)
    (hT : c = want → WL P ops (Got Q n ds ((dj, .bool want) :: l) W dx (.bool x)) n ds ((dj, .bool want) :: l) W (os.take m))
    (h : WL P ops Q n ds ((dp, .bool (bif want then c && x else c || x)) :: l) W (os.drop (m + 1))) : WL P ops Q n ds l W os := by
  intro a0 w ha hw
  have hos : os = os.take m ++ ⟨some dp, .pick t a b, ty, pos, af, g⟩ :: os.drop (m + 1) := by
    obtain ⟨hlt, he⟩ := List.getElem?_eq_some_iff.1 hp
    rw [← he, List.getElem_cons_drop hlt, List.take_append_drop]
  rw [hos]
  subst htj
  -- the pick, where the frame is known
  have pick : ∀ (a' : Act) (w' : World) (r : Bool), Ag n ds l a' → W w' → (if c then a'.eval a else a'.eval b) = .bool r → r = (bif want then c && x else c || x) →
      wpList P ops Q (⟨some dp, .pick (.tmp dj) a b, ty, pos, af, g⟩ :: os.drop (m + 1)) a' w' := by
    intro a' w' r ha' hw' hv hr
    refine wpList_step fun K hK => ?_
    rw [if_pos (GOk.wanted (o := ⟨some dp, .pick (.tmp dj) a b, ty, pos, af, g⟩) hg ha')]
    have hrun : (execOp a'.eval ⟨some dp, .pick (.tmp dj) a b, ty, pos, af, g⟩).run P w' = .ok (.value (.bool r)) w' := by
      have h1 : a'.eval (.tmp dj) = .bool c := ha'.vals dj _ hb
      simp only [execOp, h1, asBool, Sem.run_bind, Sem.run_pure, Result.andThen_ok, hv]
    simp only [Oper.wp, hrun, Oper.upon_value]
    exact hK _ _ (h _ _ (by rw [← hr]; exact ha'.put hdp _) hw')
  by_cases hc : c = want
  · refine wpList_append _ _ (wpList_mono (Q := Got Q n ds ((dj, .bool want) :: l) W dx (.bool x)) (fun e a' w' hq => ?_) _ _ (hT hc a0 w (ha.known (by rw [← hc]; exact hb)) hw))
    cases e with
    | normal =>
      obtain ⟨⟨ha', hx⟩, hw'⟩ := hq
      refine pick a' w' x (ha'.known' (by rw [← hc]; exact hb)) hw' ?_ ?_
      · subst hc
        cases c
        · simp at hab; obtain ⟨rfl, rfl⟩ := hab; exact hx
        · simp at hab; obtain ⟨rfl, rfl⟩ := hab; exact hx
      · subst hc; cases c <;> rfl
    | _ => exact hq
  · have hc' : c = !want := by cases c <;> cases want <;> first | rfl | exact absurd rfl hc
    refine WL.skips hF hin (fun a' w' ha' hw' => ?_) a0 w (ha.known (by rw [← hc']; exact hb)) hw
    have ha2 : Ag n ds l a' := (ha'.forget' m hF1 hF2).known' (by rw [← hc']; exact hb)
    refine pick a' w' c ha2 hw' ?_ ?_
    · subst hc'
      cases want
      · simp at hab; obtain ⟨rfl, rfl⟩ := hab; rfl
      · simp at hab; obtain ⟨rfl, rfl⟩ := hab; rfl
    · subst hc'; cases want <;> rfl
theorem WL.and (m : Nat) {os : List Oper} {dj dp dx : Nat} {c x : Bool} {t a b : Operand} {ty : TypeId} {pos : String} {af : Array Edge} {g : Option (Nat × Bool)} {l2 : List (Nat × Value)}
    (hp : os[m]? = some ⟨some dp, .pick t a b, ty, pos, af, g⟩) (htj : t = .tmp dj) (hb : lk l dj = some (.bool c)) (hin : inB n (os.take m) = true)
    (hg : GOk ops l g) (hdp : Nat.blt dp n = true) (hab : (a, b) = (Operand.tmp dx, Operand.const (.bool false)))
    (hF : allSkip ops ((dj, .bool false) :: l) (os.take m) = some l2) (hF1 : l2.drop m = (dj, .bool false) :: l) (hF2 : freshB (l2.take m) ((dj, .bool false) :: l) = true)
    (hT : c = true → WL P ops (Got Q n ds ((dj, .bool true) :: l) W dx (.bool x)) n ds ((dj, .bool true) :: l) W (os.take m))
    (h : WL P ops Q n ds ((dp, .bool (c && x)) :: l) W (os.drop (m + 1))) : WL P ops Q n ds l W os :=
  WL.logic m true hp htj hb hin hg hdp hab hF hF1 hF2 hT h
theorem WL.or (m : Nat) {os : List Oper} {dj dp dx : Nat} {c x : Bool} {t a b : Operand} {ty : TypeId} {pos : String} {af : Array Edge} {g : Option (Nat × Bool)} {l2 : List (Nat × Value)}
    (hp : os[m]? = some ⟨some dp, .pick t a b, ty, pos, af, g⟩) (htj : t = .tmp dj) (hb : lk l dj = some (.bool c)) (hin : inB n (os.take m) = true)
    (hg : GOk ops l g) (hdp : Nat.blt dp n = true) (hab : (a, b) = (Operand.const (.bool true), Operand.tmp dx))
    (hF : allSkip ops ((dj, .bool true) :: l) (os.take m) = some l2) (hF1 : l2.drop m = (dj, .bool true) :: l) (hF2 : freshB (l2.take m) ((dj, .bool true) :: l) = true)
    (hT : c = false → WL P ops (Got Q n ds ((dj, .bool false) :: l) W dx (.bool x)) n ds ((dj, .bool false) :: l) W (os.take m))
    (h : WL P ops Q n ds ((dp, .bool (c || x)) :: l) W (os.drop (m + 1))) : WL P ops Q n ds l W os :=
  WL.logic m false hp htj hb hin hg hdp hab hF hF1 hF2 hT h
end
end Go.Bw
