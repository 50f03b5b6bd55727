/- Walks of the peepholes and of what the law of this claim calls, and plain laws on what they compute; each theorem tells its own conditions. -/
import Derived.Test.YtagoencpeflmlaaBwP7
namespace Go.Proofs.Ytagoencpeflmlaa
open Go.Bw
set_option linter.unusedVariables false
set_option linter.unusedSimpArgs false

/-! ### Where the machine goes -/
structure PosI (N : Int → Prop) (m : Pm) : Prop where
  at_ : N m.at_
  fr : ∀ f ∈ m.frames, N f.2
theorem pos_ite {N : Int → Prop} {c : Prop} [Decidable c] {a b : Rz Unit} (ha : c → PosI N a.st) (hb : PosI N b.st) : PosI N (if c then a else b).st := by
  split
  · rename_i h; exact ha h
  · exact hb
theorem pos_top {N : Int → Prop} {m : Pm} (h : PosI N m) {k : Int → Pm → Rz Unit} (hk : ∀ a m', PosI N m' → PosI N (k a m').st) : PosI N ((topM m).bind k).st := by
  unfold topM
  cases m.stack with
  | nil => exact h
  | cons a r => exact hk a _ ⟨h.at_, h.fr⟩
theorem pos_push {N : Int → Prop} {m : Pm} (h : PosI N m) (n : Int) : PosI N (pushM n m).st := by
  unfold pushM
  split
  · exact h
  · exact ⟨h.at_, h.fr⟩
theorem pos_tick {N : Int → Prop} {m : Pm} (h : PosI N m) : PosI N (tickM m).st := by
  unfold tickM
  split
  · exact h
  · exact ⟨h.at_, h.fr⟩
theorem pos_math {N : Int → Prop} {m : Pm} (h : PosI N m) (op : Int) : PosI N (mathM op m).st := by
  unfold mathM
  refine pos_ite (fun _ => h) (pos_top h fun b m1 h1 => pos_top h1 fun a m2 h2 => pos_ite (fun _ => pos_push h2 _) (pos_ite (fun _ => h2) (pos_push h2 _)))
theorem pos_frs {N : Int → Prop} {m : Pm} (h : PosI N m) {l : List Int} : PosI N { m with frames := match m.frames with | [] => [] | f :: r => (l, f.2) :: r } := by
  refine ⟨h.at_, fun f hf => ?_⟩
  have hfr := h.fr
  cases hm : m.frames with
  | nil => rw [hm] at hf; simp at hf
  | cons g r =>
    rw [hm] at hf hfr
    simp only [List.mem_cons] at hf
    rcases hf with rfl | hf
    · exact hfr g (by simp)
    · exact hfr f (by simp [hf])
theorem pos_setLoc {N : Int → Prop} {m : Pm} (h : PosI N m) (k : Nat) (n : Int) : PosI N (setLoc m k n) := by
  unfold setLoc
  refine ⟨h.at_, fun f hf => ?_⟩
  have hfr := h.fr
  cases hm : m.frames with
  | nil => rw [hm] at hf; simp at hf
  | cons g r =>
    rw [hm] at hf hfr
    simp only [List.mem_cons] at hf
    rcases hf with rfl | hf
    · exact hfr g (by simp)
    · exact hfr f (by simp [hf])
theorem pos_enter {N : Int → Prop} {m : Pm} (h : PosI N m) (a b : Int) : PosI N (enterM a b m).st := by
  unfold enterM
  refine pos_ite (fun _ => h) ?_
  refine ⟨h.at_, fun f hf => ?_⟩
  have hfr := h.fr
  cases hm : m.frames with
  | nil => simp only [Rz.st, hm] at hf; simp at hf
  | cons g r =>
    simp only [Rz.st, hm, List.mem_cons] at hf
    rw [hm] at hfr
    rcases hf with rfl | hf
    · exact hfr g (by simp)
    · exact hfr f (by simp [hf])
theorem pos_call {N : Int → Prop} {m : Pm} (h : PosI N m) {to : Int} (hto : N to) : PosI N (callM to m).st := by
  have ht := pos_tick h
  unfold callM
  cases hr : tickM m with
  | ov e m' => rw [hr] at ht; exact ht
  | ok u m' =>
    rw [hr] at ht
    have ht : PosI N m' := ht
    refine pos_ite (fun _ => ht) ⟨hto, fun f hf => ?_⟩
    simp only [Rz.st, List.mem_cons] at hf
    rcases hf with rfl | hf
    · exact ht.at_
    · exact ht.fr f hf
theorem pos_ret {N : Int → Prop} {m : Pm} (h : PosI N m) : PosI N (retM m).st := by
  have hfr := h.fr
  unfold retM
  refine pos_ite (fun _ => h) ?_
  cases hm : m.frames with
  | nil => exact h
  | cons g r =>
    rw [hm] at hfr
    exact ⟨hfr g (by simp), fun f hf => hfr f (by simp only [Rz.st] at hf; simp [hf])⟩
theorem pos_step {N : Int → Prop} {i : Ins} {m : Pm} (hat : N m.at1.at_) (hfr : ∀ f ∈ m.frames, N f.2) (hgo : goes i.op = true → N i.a) : PosI N (stepM i m).st := by
  have h : PosI N m.at1 := ⟨hat, hfr⟩
  unfold stepM
  generalize m.at1 = m at h
  unfold stepB
  refine pos_ite (fun _ => pos_push h _) ?_
  refine pos_ite (fun _ => pos_ite (fun _ => h) (pos_push h _)) ?_
  refine pos_ite (fun _ => pos_top h fun n m1 h1 => pos_ite (fun _ => h1) (pos_setLoc h1 _ _)) ?_
  refine pos_ite (fun _ => pos_ite (fun _ => h) (pos_push h _)) ?_
  refine pos_ite (fun _ => pos_top h fun n m1 h1 => pos_ite (fun _ => h1) ⟨h1.at_, h1.fr⟩) ?_
  refine pos_ite (fun _ => pos_top h fun n m1 h1 => pos_ite (fun _ => h1) (pos_push h1 _)) ?_
  refine pos_ite (fun _ => pos_top h fun n m1 h1 => pos_ite (fun _ => h1) (pos_push h1 _)) ?_
  refine pos_ite (fun _ => pos_top h fun n m1 h1 => pos_top h1 fun k m2 h2 => pos_ite (fun _ => h2) ⟨h2.at_, h2.fr⟩) ?_
  refine pos_ite (fun _ => pos_top h fun n m1 h1 => pos_push h1 _) ?_
  refine pos_ite (fun _ => pos_top h fun n m1 h1 => pos_push h1 _) ?_
  refine pos_ite (fun _ => pos_math h _) ?_
  refine pos_ite (fun hc => ⟨hgo (by simp at hc; simp [goes, hc]), h.fr⟩) ?_
  refine pos_ite (fun hc => pos_top h fun n m1 h1 => pos_ite (fun _ => ⟨hgo (by simp at hc; simp [goes, hc]), h1.fr⟩) h1) ?_
  refine pos_ite (fun hc => pos_call h (hgo (by simp at hc; simp [goes, hc]))) ?_
  refine pos_ite (fun _ => pos_enter h _ _) ?_
  refine pos_ite (fun _ => pos_ret h) ?_
  refine pos_ite (fun _ => pos_tick h) ?_
  refine pos_ite (fun _ => pos_top h fun n m1 h1 => h1) ?_
  refine pos_ite (fun _ => pos_push (by unfold readM; split; exact h; exact ⟨h.at_, h.fr⟩) _) ?_
  refine pos_ite (fun _ => pos_top h fun n m1 h1 => pos_ite (fun _ => h1) ⟨h1.at_, h1.fr⟩) ?_
  exact pos_ite (fun _ => h) h
/-! ### The steps count for nothing but themselves -/
def Pm.ss (m : Pm) (s : Int) : Pm := { m with steps := s }
def Rz.ss {α : Type} (r : Rz α) (s : Int) : Rz α := match r with | .ok a m => .ok a (m.ss s) | .ov e m => .ov e (m.ss s)
theorem ss_bind {α β : Type} {r : Rz α} {r' : Rz α} {f : α → Pm → Rz β} {s : Int} (h1 : r' = r.ss s) (h2 : ∀ a m, f a (m.ss s) = (f a m).ss s) : r'.bind f = (r.bind f).ss s := by
  subst h1
  cases r with
  | ok a m => exact h2 a m
  | ov e m => rfl
theorem ss_ite {α : Type} {c : Prop} [Decidable c] {a b a' b' : Rz α} {s : Int} (ha : a' = a.ss s) (hb : b' = b.ss s) : (if c then a' else b') = (if c then a else b).ss s := by
  split
  · exact ha
  · exact hb
theorem ss_top (m : Pm) (s : Int) : topM (m.ss s) = (topM m).ss s := by obtain ⟨a, b, c, st, d, e, f, g, h⟩ := m; cases st <;> rfl
theorem ss_push (n : Int) (m : Pm) (s : Int) : pushM n (m.ss s) = (pushM n m).ss s := by unfold pushM Pm.ss; dsimp only; split <;> rfl
theorem ss_tick (m : Pm) (s : Int) : tickM (m.ss s) = (tickM m).ss s := by unfold tickM Pm.ss; dsimp only; split <;> rfl
theorem ss_math (op : Int) (m : Pm) (s : Int) : mathM op (m.ss s) = (mathM op m).ss s := by
  unfold mathM
  refine ss_ite rfl (ss_bind (ss_top m s) fun b m1 => ss_bind (ss_top m1 s) fun a m2 => ss_ite (ss_push _ m2 s) (ss_ite rfl (ss_push _ m2 s)))
theorem ss_enter (a b : Int) (m : Pm) (s : Int) : enterM a b (m.ss s) = (enterM a b m).ss s := by unfold enterM Pm.ss; dsimp only; split <;> rfl
theorem ss_call (to : Int) (m : Pm) (s : Int) : callM to (m.ss s) = (callM to m).ss s := by
  unfold callM
  refine ss_bind (ss_tick m s) fun _ m1 => ?_
  show (if 24 < m1.frames.length then _ else _) = _
  exact ss_ite rfl rfl
theorem ss_ret (m : Pm) (s : Int) : retM (m.ss s) = (retM m).ss s := by
  unfold retM
  show (if m.frames.length = 1 then _ else match m.frames with | [] => _ | f :: r => _) = _
  split
  · rfl
  · obtain ⟨a, b, c, st, fr, e, f, g, h⟩ := m
    cases fr <;> rfl
theorem ss_read (m : Pm) (s : Int) : readM (m.ss s) = ((readM m).1, (readM m).2.ss s) := by
  obtain ⟨a, b, c, st, fr, inp, f, g, h⟩ := m
  cases inp <;> rfl
theorem ss_step (i : Ins) (m : Pm) (s : Int) : stepM i (m.ss s) = (stepM i m).ss s := by
  unfold stepM
  show stepB i (m.at1.ss s) = _
  generalize m.at1 = m
  unfold stepB
  refine ss_ite (ss_push _ _ _) ?_
  refine ss_ite (ss_ite rfl (ss_push _ _ _)) ?_
  refine ss_ite (ss_bind (ss_top m s) fun n m1 => ss_ite rfl rfl) ?_
  refine ss_ite (ss_ite rfl (ss_push _ _ _)) ?_
  refine ss_ite (ss_bind (ss_top m s) fun n m1 => ss_ite rfl rfl) ?_
  refine ss_ite (ss_bind (ss_top m s) fun n m1 => ss_ite rfl (ss_push _ _ _)) ?_
  refine ss_ite (ss_bind (ss_top m s) fun n m1 => ss_ite rfl (ss_push _ _ _)) ?_
  refine ss_ite (ss_bind (ss_top m s) fun n m1 => ss_bind (ss_top m1 s) fun k m2 => ss_ite rfl rfl) ?_
  refine ss_ite (ss_bind (ss_top m s) fun n m1 => ss_push _ _ _) ?_
  refine ss_ite (ss_bind (ss_top m s) fun n m1 => ss_push _ _ _) ?_
  refine ss_ite (ss_math _ _ _) ?_
  refine ss_ite rfl ?_
  refine ss_ite (ss_bind (ss_top m s) fun n m1 => ss_ite rfl rfl) ?_
  refine ss_ite (ss_call _ _ _) ?_
  refine ss_ite (ss_enter _ _ _ _) ?_
  refine ss_ite (ss_ret _ _) ?_
  refine ss_ite (ss_tick _ _) ?_
  refine ss_ite (ss_bind (ss_top m s) fun n m1 => rfl) ?_
  refine ss_ite (by rw [ss_read]; exact ss_push _ _ _) ?_
  refine ss_ite (ss_bind (ss_top m s) fun n m1 => ss_ite rfl rfl) ?_
  exact ss_ite rfl rfl

/-! ### The pattern at a place -/
def patOf (mk : List Bool) (cur : List Ins) (k : Nat) : Option (Nat × Ins) :=
  if thenB mk cur k [1, 10] = true then (if (mmath (atI cur (k + 2)).a (atI cur k).a (atI cur (k + 1)).a).2 = true then some (3, ⟨1, (mmath (atI cur (k + 2)).a (atI cur k).a (atI cur (k + 1)).a).1, 0⟩) else none)
  else if (thenB mk cur k [12] && (atI cur k).a == 0) = true then some (2, ⟨11, (atI cur (k + 1)).a, 0⟩)
  else if thenB mk cur k [9] = true then some (2, ⟨1, bitI ((atI cur k).a == 0), 0⟩)
  else if thenB mk cur k [22] = true then some (2, ⟨1, bitI ((atI cur k).a != 0), 0⟩)
  else if (thenB mk cur k [12] || thenB mk cur k [17]) = true then some (2, ⟨21, 0, 0⟩)
  else none
def putP (cur : List Ins) (k : Nat) : Option (Nat × Ins) → List Ins
  | none => cur
  | some (n, x) => layL cur k n x
theorem pushed_pat (mk : List Bool) (cur : List Ins) (k : Nat) : pushedL mk cur k = putP cur k (patOf mk cur k) := by
  unfold pushedL patOf
  repeat' split
  all_goals rfl
theorem ok_facts {mk : List Bool} {cur : List Ins} {m : Nat} {o : Int} (h : okAt mk cur m o = true) : m < cur.length ∧ (atI cur m).op = o ∧ mk[m]? = some false := by
  unfold okAt at h
  simp at h
  refine ⟨h.1, h.2.1, ?_⟩
  have h3 := h.2.2
  cases hm : mk[m]? with
  | none => rw [hm] at h3; simp at h3
  | some b => rw [hm] at h3; simp at h3; rw [h3]
theorem then1 {mk : List Bool} {cur : List Ins} {k : Nat} {a : Int} (h : thenB mk cur k [a] = true) : k + 1 < cur.length ∧ (atI cur (k + 1)).op = a ∧ mk[k + 1]? = some false := ok_facts (by simpa [thenB, List.range_succ] using h)
theorem then2 {mk : List Bool} {cur : List Ins} {k : Nat} {a b : Int} (h : thenB mk cur k [a, b] = true) : (k + 1 < cur.length ∧ (atI cur (k + 1)).op = a ∧ mk[k + 1]? = some false) ∧ (k + 2 < cur.length ∧ (atI cur (k + 2)).op = b ∧ mk[k + 2]? = some false) := by
  have h' : okAt mk cur (k + 1) a = true ∧ okAt mk cur (k + 2) b = true := by simpa [thenB, List.range_succ] using h
  exact ⟨ok_facts h'.1, ok_facts h'.2⟩
structure Pat (mk : List Bool) (cur : List Ins) (k n : Nat) (x : Ins) : Prop where
  len : k + n ≤ cur.length
  two : n = 2 ∨ n = 3
  un : ∀ j, k < j → j < k + n → mk[j]? = some false
  is : (n = 3 ∧ (atI cur (k + 1)).op = 1 ∧ (atI cur (k + 2)).op = 10 ∧ (mmath (atI cur (k + 2)).a (atI cur k).a (atI cur (k + 1)).a).2 = true ∧ x = ⟨1, (mmath (atI cur (k + 2)).a (atI cur k).a (atI cur (k + 1)).a).1, 0⟩) ∨
    (n = 2 ∧ (atI cur (k + 1)).op = 12 ∧ (atI cur k).a = 0 ∧ x = ⟨11, (atI cur (k + 1)).a, 0⟩) ∨
    (n = 2 ∧ (atI cur (k + 1)).op = 9 ∧ x = ⟨1, bitI ((atI cur k).a == 0), 0⟩) ∨
    (n = 2 ∧ (atI cur (k + 1)).op = 22 ∧ x = ⟨1, bitI ((atI cur k).a != 0), 0⟩) ∨
    (n = 2 ∧ (atI cur (k + 1)).op = 12 ∧ (atI cur k).a ≠ 0 ∧ x = ⟨21, 0, 0⟩) ∨
    (n = 2 ∧ (atI cur (k + 1)).op = 17 ∧ x = ⟨21, 0, 0⟩)
theorem patOf_some {mk : List Bool} {cur : List Ins} {k n : Nat} {x : Ins} (h : patOf mk cur k = some (n, x)) : Pat mk cur k n x := by
  have u1 : mk[k + 1]? = some false → ∀ j, k < j → j < k + 2 → mk[j]? = some false := fun h j h1 h2 => by rw [show j = k + 1 by omega]; exact h
  unfold patOf at h
  split at h
  · rename_i ht
    obtain ⟨⟨a1, a2, a3⟩, b1, b2, b3⟩ := then2 ht
    split at h
    · rename_i hm
      injection h with h
      injection h with h1 h2
      subst h1 h2
      exact ⟨by omega, .inr rfl, fun j h1 h2 => by rcases (show j = k + 1 ∨ j = k + 2 by omega) with rfl | rfl; exact a3; exact b3, .inl ⟨rfl, a2, b2, hm, rfl⟩⟩
    · cases h
  · split at h
    · rename_i ht
      simp only [Bool.and_eq_true, beq_iff_eq] at ht
      obtain ⟨a1, a2, a3⟩ := then1 ht.1
      injection h with h
      injection h with h1 h2
      subst h1 h2
      exact ⟨by omega, .inl rfl, u1 a3, .inr (.inl ⟨rfl, a2, ht.2, rfl⟩)⟩
    · rename_i hn0
      split at h
      · rename_i ht
        obtain ⟨a1, a2, a3⟩ := then1 ht
        injection h with h
        injection h with h1 h2
        subst h1 h2
        exact ⟨by omega, .inl rfl, u1 a3, .inr (.inr (.inl ⟨rfl, a2, rfl⟩))⟩
      · split at h
        · rename_i ht
          obtain ⟨a1, a2, a3⟩ := then1 ht
          injection h with h
          injection h with h1 h2
          subst h1 h2
          exact ⟨by omega, .inl rfl, u1 a3, .inr (.inr (.inr (.inl ⟨rfl, a2, rfl⟩)))⟩
        · split at h
          · rename_i ht
            injection h with h
            injection h with h1 h2
            subst h1 h2
            by_cases h12 : thenB mk cur k [12] = true
            · obtain ⟨a1, a2, a3⟩ := then1 h12
              exact ⟨by omega, .inl rfl, u1 a3, .inr (.inr (.inr (.inr (.inl ⟨rfl, a2, by intro h0; simp [h12, h0] at hn0, rfl⟩))))⟩
            · have h17 : thenB mk cur k [17] = true := by simpa [h12] using ht
              obtain ⟨a1, a2, a3⟩ := then1 h17
              exact ⟨by omega, .inl rfl, u1 a3, .inr (.inr (.inr (.inr (.inr ⟨rfl, a2, rfl⟩))))⟩
          · cases h
theorem lay_get {cur : List Ins} {k n : Nat} {x : Ins} (hk : k + n ≤ cur.length) (hn : n = 2 ∨ n = 3) (j : Nat) : (layL cur k n x)[j]? = if j = k + n - 1 then some x else if k ≤ j ∧ j < k + n then some ⟨21, 0, 0⟩ else cur[j]? := by
  rcases hn with rfl | rfl
  · show ((cur.set (k + 0) ⟨21, 0, 0⟩).set (k + 2 - 1) x)[j]? = _
    rw [List.getElem?_set, List.getElem?_set]
    by_cases h1 : k + 2 - 1 = j
    · rw [if_pos h1, if_pos h1.symm, if_pos (by simp; omega)]
    · rw [if_neg h1, if_neg (Ne.symm h1)]
      by_cases h2 : k + 0 = j
      · rw [if_pos h2, if_pos (by omega), if_pos (by omega)]
      · rw [if_neg h2, if_neg (by omega)]
  · show (((cur.set (k + 0) ⟨21, 0, 0⟩).set (k + 1) ⟨21, 0, 0⟩).set (k + 3 - 1) x)[j]? = _
    rw [List.getElem?_set, List.getElem?_set, List.getElem?_set]
    by_cases h1 : k + 3 - 1 = j
    · rw [if_pos h1, if_pos h1.symm, if_pos (by simp; omega)]
    · rw [if_neg h1, if_neg (Ne.symm h1)]
      by_cases h3 : k + 1 = j
      · rw [if_pos h3, if_pos (by simp; omega), if_pos (by omega)]
      · rw [if_neg h3]
        by_cases h2 : k + 0 = j
        · rw [if_pos h2, if_pos (by omega), if_pos (by omega)]
        · rw [if_neg h2, if_neg (by omega)]
/-! ### One instruction -/
theorem iter_at {code : List Ins} {lim : Int} {m : Pm} {p : Nat} {x : Ins} (hp : m.at_ = (p : Int)) (hx : code[p]? = some x) : iterM code lim m = if (m.steps == lim) = true then .ov 7 m else stepM x m.tk := by
  have hl := (List.getElem?_eq_some_iff.1 hx).1
  unfold iterM
  rw [if_neg (show ¬ outsideB m.at_ code.length = true by rw [hp]; simp [outsideB]; omega), show m.at_.toNat = p by omega, hx]
  rfl
theorem run_one {code : List Ins} {lim : Int} {k : Nat} {m : Pm} {p : Nat} {x : Ins} (hp : m.at_ = (p : Int)) (hx : code[p]? = some x) (h7 : (runK code lim k m).1 ≠ 7) :
    ∃ f, k = f + 1 ∧ (m.steps == lim) = false ∧ runK code lim k m = match stepM x m.tk with | .ov e m' => (e, m') | .ok _ m' => runK code lim f m' := by
  cases k with
  | zero => exact absurd rfl h7
  | succ f =>
    have hi := iter_at (lim := lim) hp hx
    cases hs : (m.steps == lim) with
    | true =>
      rw [hs, if_pos rfl] at hi
      unfold runK at h7
      rw [hi] at h7
      exact absurd rfl h7
    | false =>
      rw [hs, if_neg (by simp)] at hi
      refine ⟨f, rfl, rfl, ?_⟩
      rw [runK, hi]
      cases stepM x m.tk <;> rfl
theorem run_fwd {code : List Ins} {lim : Int} {f : Nat} {m m' : Pm} {p : Nat} {x : Ins} (hp : m.at_ = (p : Int)) (hx : code[p]? = some x) (hs : (m.steps == lim) = false) (ho : stepM x m.tk = .ok () m') : runK code lim (f + 1) m = runK code lim f m' := by
  have hi := iter_at (lim := lim) hp hx
  rw [hs, if_neg (by simp), ho] at hi
  exact run_ok f hi
theorem st_push {x : Ins} (h : x.op = 1) (m : Pm) : stepM x m.tk = pushM x.a m.tk.at1 := by unfold stepM stepB; rw [if_pos (by rw [h]; rfl)]
theorem st_nop (m : Pm) : stepM ⟨21, 0, 0⟩ m.tk = .ok () m.tk.at1 := by simp [stepM, stepB]
theorem st_jump {x : Ins} (h : x.op = 11) (m : Pm) : stepM x m.tk = .ok () { m.tk.at1 with at_ := x.a } := by simp [stepM, stepB, h]
theorem st_zero {x : Ins} (h : x.op = 12) (m : Pm) : stepM x m.tk = (topM m.tk.at1).bind fun n m => if (n == 0) = true then .ok () { m with at_ := x.a } else .ok () m := by simp only [stepM, stepB, h]; rfl
theorem st_not {x : Ins} (h : x.op = 9) (m : Pm) : stepM x m.tk = (topM m.tk.at1).bind fun n m => pushM (bitI (n == 0)) m := by simp only [stepM, stepB, h]; rfl
theorem st_truth {x : Ins} (h : x.op = 22) (m : Pm) : stepM x m.tk = (topM m.tk.at1).bind fun n m => pushM (bitI (n != 0)) m := by simp only [stepM, stepB, h]; rfl
theorem st_drop {x : Ins} (h : x.op = 17) (m : Pm) : stepM x m.tk = (topM m.tk.at1).bind fun _ m => .ok () m := by simp only [stepM, stepB, h]; rfl
theorem st_math {x : Ins} (h : x.op = 10) (m : Pm) : stepM x m.tk = mathM x.a m.tk.at1 := by simp only [stepM, stepB, h]; rfl
/-! ### One pattern changes no run -/
theorem at1_at {m : Pm} {p : Nat} (h : m.at_ = (p : Int)) (hp : p ≤ 4096) : m.tk.at1.at_ = ((p + 1 : Nat) : Int) := by
  show IntKind.i64.wrap (m.at_ + 1) = _
  rw [h, wrap_in (by omega)]
  omega
theorem iter_ok {code : List Ins} {lim : Int} {m m' : Pm} (h : iterM code lim m = .ok () m') : ∃ (p : Nat) (z : Ins), m.at_ = (p : Int) ∧ code[p]? = some z ∧ (m.steps == lim) = false ∧ stepM z m.tk = .ok () m' := by
  unfold iterM at h
  split at h
  · cases h
  · rename_i hs
    split at h
    · cases h
    · rename_i ho
      have hlt := not_outside (by simpa using ho)
      refine ⟨m.at_.toNat, code[m.at_.toNat], by omega, List.getElem?_eq_getElem hlt.2, by simpa using hs, ?_⟩
      rw [List.getElem?_eq_getElem hlt.2] at h
      exact h
def NI (k n : Nat) (p : Int) : Prop := p ≤ k ∨ (k : Int) + n ≤ p
theorem pat_run {mk : List Bool} {cur : List Ins} {k n : Nat} {x : Ins} {lim : Int} (h1 : (atI cur k).op = 1) (hp : Pat mk cur k n x) (hlen : cur.length ≤ 2048)
    (hgo : ∀ (j : Nat) (y : Ins), cur[j]? = some y → goes y.op = true → 0 ≤ y.a → y.a < cur.length → mk[y.a.toNat]? = some true) (f : Nat) : ∀ m : Pm, NI k n m.at_ → (∀ g ∈ m.frames, NI k n g.2) → (runK cur lim f m).1 ≠ 6 → (runK cur lim f m).1 ≠ 7 →
    runK (layL cur k n x) lim f m = runK cur lim f m := by
  have hkl := hp.len
  have hn := hp.two
  have hgoN : ∀ (j : Nat) (y : Ins), cur[j]? = some y → goes y.op = true → NI k n y.a := by
    intro j y hj hg
    by_cases ha : 0 ≤ y.a ∧ y.a < cur.length
    · have hm := hgo j y hj hg ha.1 ha.2
      by_cases hi : k < y.a.toNat ∧ y.a.toNat < k + n
      · rw [hp.un _ hi.1 hi.2] at hm; cases hm
      · unfold NI; omega
    · unfold NI; omega
  induction f using Nat.strongRecOn with
  | ind f ih =>
    intro m hat hfr h6 h7
    by_cases hk : m.at_ = (k : Int)
    · have hk0 : cur[k]? = some (atI cur k) := atI_get (by omega)
      have hk1 : cur[k + 1]? = some (atI cur (k + 1)) := atI_get (by omega)
      have c0 : (layL cur k n x)[k]? = some ⟨21, 0, 0⟩ := by rw [lay_get hkl hn, if_neg (by omega), if_pos (by omega)]
      obtain ⟨f1, rfl, hs1, e1⟩ := run_one hk hk0 h7
      rw [st_push h1] at e1
      unfold pushM at e1
      by_cases hst : m.stack.length = 2048
      · rw [if_pos (show m.tk.at1.stack.length = 2048 from hst)] at e1
        rw [e1] at h6
        exact absurd rfl h6
      · rw [if_neg (show ¬ m.tk.at1.stack.length = 2048 from hst)] at e1
        have e1 : runK cur lim (f1 + 1) m = runK cur lim f1 { m.tk.at1 with stack := (atI cur k).a :: m.stack } := e1
        have g1 : runK (layL cur k n x) lim (f1 + 1) m = runK (layL cur k n x) lim f1 m.tk.at1 := run_fwd hk c0 hs1 (st_nop m)
        rw [e1] at h6 h7 ⊢
        rw [g1]
        have ha1 : m.tk.at1.at_ = ((k + 1 : Nat) : Int) := at1_at hk (by omega)
        obtain ⟨f2, rfl, hs2, e2⟩ := run_one (m := { m.tk.at1 with stack := (atI cur k).a :: m.stack }) ha1 hk1 h7
        have ha2 : m.tk.at1.tk.at1.at_ = ((k + 2 : Nat) : Int) := at1_at ha1 (by omega)
        have hfin : ∀ m2 : Pm, f2 < f2 + 1 + 1 → NI k n m2.at_ → m2.frames = m.frames → runK cur lim (f2 + 1) { m.tk.at1 with stack := (atI cur k).a :: m.stack } = runK cur lim f2 m2 → runK (layL cur k n x) lim (f2 + 1) m.tk.at1 = runK (layL cur k n x) lim f2 m2 → runK (layL cur k n x) lim (f2 + 1) m.tk.at1 = runK cur lim (f2 + 1) { m.tk.at1 with stack := (atI cur k).a :: m.stack } := by
          intro m2 hlt hN hF q1 q2
          rw [q1] at h6 h7 ⊢
          rw [q2]
          exact ih f2 hlt m2 hN (by rw [hF]; exact hfr) h6 h7
        have hN2 : n = 2 → NI k n ((k + 2 : Nat) : Int) := by intro h; unfold NI; omega
        have c1 : n = 2 → (layL cur k n x)[k + 1]? = some x := by intro h; rw [lay_get hkl hn, if_pos (by omega)]
        rcases hp.is with ⟨hn3, o1, o2, hm, hx⟩ | ⟨hn2, o1, hz, hx⟩ | ⟨hn2, o1, hx⟩ | ⟨hn2, o1, hx⟩ | ⟨hn2, o1, hz, hx⟩ | ⟨hn2, o1, hx⟩
        · -- two pushes and a sum
          have hk2 : cur[k + 2]? = some (atI cur (k + 2)) := atI_get (by omega)
          have c1 : (layL cur k n x)[k + 1]? = some ⟨21, 0, 0⟩ := by rw [lay_get hkl hn, if_neg (by omega), if_pos (by omega)]
          have c2 : (layL cur k n x)[k + 2]? = some x := by rw [lay_get hkl hn, if_pos (by omega)]
          rw [st_push o1] at e2
          by_cases hst2 : m.stack.length + 1 = 2048
          · have ep : pushM (atI cur (k + 1)).a (Pm.at1 (Pm.tk { m.tk.at1 with stack := (atI cur k).a :: m.stack })) = .ov 6 (Pm.at1 (Pm.tk { m.tk.at1 with stack := (atI cur k).a :: m.stack })) := if_pos (show ((atI cur k).a :: m.stack).length = 2048 by simpa using hst2)
            rw [ep] at e2
            rw [e2] at h6
            exact absurd rfl h6
          · have ep : pushM (atI cur (k + 1)).a (Pm.at1 (Pm.tk { m.tk.at1 with stack := (atI cur k).a :: m.stack })) = .ok () { m.tk.at1.tk.at1 with stack := (atI cur (k + 1)).a :: (atI cur k).a :: m.stack } := if_neg (show ¬ ((atI cur k).a :: m.stack).length = 2048 by simpa using hst2)
            rw [ep] at e2
            have e2 : runK cur lim (f2 + 1) { m.tk.at1 with stack := (atI cur k).a :: m.stack } = runK cur lim f2 { m.tk.at1.tk.at1 with stack := (atI cur (k + 1)).a :: (atI cur k).a :: m.stack } := e2
            have g2 : runK (layL cur k n x) lim (f2 + 1) m.tk.at1 = runK (layL cur k n x) lim f2 m.tk.at1.tk.at1 := run_fwd ha1 c1 hs2 (st_nop _)
            rw [e2] at h6 h7 ⊢
            rw [g2]
            obtain ⟨f3, rfl, hs3, e3⟩ := run_one (m := { m.tk.at1.tk.at1 with stack := (atI cur (k + 1)).a :: (atI cur k).a :: m.stack }) ha2 hk2 h7
            have hop : (decide ((atI cur (k + 2)).a < 9) || decide (15 < (atI cur (k + 2)).a)) = false := by
              cases hb : foldsB (atI cur (k + 2)).a with
              | true => simp [foldsB] at hb; simp; omega
              | false => rw [math_not _ _ hb] at hm; cases hm
            have em : mathM (atI cur (k + 2)).a { m.tk.at1.tk.at1.tk.at1 with stack := (atI cur (k + 1)).a :: (atI cur k).a :: m.stack } = pushM x.a m.tk.at1.tk.at1.tk.at1 := by
              unfold mathM
              rw [hop, if_neg (by simp)]
              show (if (mmath (atI cur (k + 2)).a (atI cur k).a (atI cur (k + 1)).a).2 = true then pushM (mmath (atI cur (k + 2)).a (atI cur k).a (atI cur (k + 1)).a).1 m.tk.at1.tk.at1.tk.at1 else _) = _
              rw [if_pos hm, hx]
            have em' : stepM (atI cur (k + 2)) (Pm.tk { m.tk.at1.tk.at1 with stack := (atI cur (k + 1)).a :: (atI cur k).a :: m.stack }) = pushM x.a m.tk.at1.tk.at1.tk.at1 := (st_math o2 _).trans em
            rw [em'] at e3
            have ex : stepM x m.tk.at1.tk.at1.tk = pushM x.a m.tk.at1.tk.at1.tk.at1 := st_push (by rw [hx]) _
            have ep : pushM x.a m.tk.at1.tk.at1.tk.at1 = .ok () { m.tk.at1.tk.at1.tk.at1 with stack := x.a :: m.stack } := by
              unfold pushM
              rw [if_neg (show ¬ m.tk.at1.tk.at1.tk.at1.stack.length = 2048 from hst)]
              rfl
            rw [ep] at e3 ex
            have g3 := run_fwd (lim := lim) (f := f3) ha2 c2 hs3 ex
            rw [g3]
            rw [e3] at h6 h7 ⊢
            refine ih f3 (by omega) _ ?_ hfr h6 h7
            show NI k n m.tk.at1.tk.at1.tk.at1.at_
            rw [at1_at ha2 (by omega)]
            unfold NI; omega
        · rw [st_zero o1] at e2
          have q1 : runK cur lim (f2 + 1) { m.tk.at1 with stack := (atI cur k).a :: m.stack } = runK cur lim f2 { m.tk.at1.tk.at1 with at_ := (atI cur (k + 1)).a } := by
            rw [e2]
            show (match (if ((atI cur k).a == 0) = true then Rz.ok () _ else Rz.ok () _) with | .ov e m' => (e, m') | .ok _ m' => runK cur lim f2 m') = _
            rw [if_pos (by simpa using hz)]
            rfl
          refine hfin { m.tk.at1.tk.at1 with at_ := (atI cur (k + 1)).a } (by omega) (hgoN (k + 1) _ hk1 (by simp [goes, o1])) rfl q1 ?_
          have := run_fwd (lim := lim) (f := f2) ha1 (c1 hn2) hs2 (st_jump (by rw [hx]) _)
          rw [this, hx]
        · rw [st_not o1] at e2
          have ep : pushM (bitI ((atI cur k).a == 0)) m.tk.at1.tk.at1 = .ok () { m.tk.at1.tk.at1 with stack := bitI ((atI cur k).a == 0) :: m.stack } := by
            unfold pushM
            rw [if_neg (show ¬ m.tk.at1.tk.at1.stack.length = 2048 from hst)]
            rfl
          have q1 : runK cur lim (f2 + 1) { m.tk.at1 with stack := (atI cur k).a :: m.stack } = runK cur lim f2 { m.tk.at1.tk.at1 with stack := bitI ((atI cur k).a == 0) :: m.stack } := by
            rw [e2]
            show (match pushM (bitI ((atI cur k).a == 0)) m.tk.at1.tk.at1 with | .ov e m' => (e, m') | .ok _ m' => runK cur lim f2 m') = _
            rw [ep]
          refine hfin { m.tk.at1.tk.at1 with stack := bitI ((atI cur k).a == 0) :: m.stack } (by omega) (by show NI k n m.tk.at1.tk.at1.at_; rw [ha2]; exact hN2 hn2) rfl q1 ?_
          exact run_fwd ha1 (c1 hn2) hs2 ((st_push (by rw [hx]) _).trans (by rw [hx]; exact ep))
        · rw [st_truth o1] at e2
          have ep : pushM (bitI ((atI cur k).a != 0)) m.tk.at1.tk.at1 = .ok () { m.tk.at1.tk.at1 with stack := bitI ((atI cur k).a != 0) :: m.stack } := by
            unfold pushM
            rw [if_neg (show ¬ m.tk.at1.tk.at1.stack.length = 2048 from hst)]
            rfl
          have q1 : runK cur lim (f2 + 1) { m.tk.at1 with stack := (atI cur k).a :: m.stack } = runK cur lim f2 { m.tk.at1.tk.at1 with stack := bitI ((atI cur k).a != 0) :: m.stack } := by
            rw [e2]
            show (match pushM (bitI ((atI cur k).a != 0)) m.tk.at1.tk.at1 with | .ov e m' => (e, m') | .ok _ m' => runK cur lim f2 m') = _
            rw [ep]
          refine hfin { m.tk.at1.tk.at1 with stack := bitI ((atI cur k).a != 0) :: m.stack } (by omega) (by show NI k n m.tk.at1.tk.at1.at_; rw [ha2]; exact hN2 hn2) rfl q1 ?_
          exact run_fwd ha1 (c1 hn2) hs2 ((st_push (by rw [hx]) _).trans (by rw [hx]; exact ep))
        · rw [st_zero o1] at e2
          have q1 : runK cur lim (f2 + 1) { m.tk.at1 with stack := (atI cur k).a :: m.stack } = runK cur lim f2 m.tk.at1.tk.at1 := by
            rw [e2]
            show (match (if ((atI cur k).a == 0) = true then Rz.ok () _ else Rz.ok () _) with | .ov e m' => (e, m') | .ok _ m' => runK cur lim f2 m') = _
            rw [if_neg (by simpa using hz)]
            rfl
          refine hfin m.tk.at1.tk.at1 (by omega) (by rw [ha2]; exact hN2 hn2) rfl q1 ?_
          exact run_fwd ha1 (c1 hn2) hs2 (by rw [hx]; exact st_nop _)
        · rw [st_drop o1] at e2
          refine hfin m.tk.at1.tk.at1 (by omega) (by rw [ha2]; exact hN2 hn2) rfl e2 ?_
          exact run_fwd ha1 (c1 hn2) hs2 (by rw [hx]; exact st_nop _)
    · cases f with
      | zero => exact absurd rfl h7
      | succ f =>
        have hll : (layL cur k n x).length = cur.length := layL_len cur k n x
        have hi : iterM (layL cur k n x) lim m = iterM cur lim m := by
          unfold iterM
          rw [hll]
          by_cases ho : outsideB m.at_ cur.length = true
          · rw [if_pos ho, if_pos ho]
          · have hlt := not_outside (by simpa using ho)
            have hq : (layL cur k n x)[m.at_.toNat]? = cur[m.at_.toNat]? := by
              unfold NI at hat
              rw [lay_get hkl hn, if_neg (by omega), if_neg (by omega)]
            rw [if_neg ho, if_neg ho, hq]
        rw [runK] at h6 h7
        rw [runK, runK, hi]
        cases hr : iterM cur lim m with
        | ov e m' => rfl
        | ok u m' =>
          rw [hr] at h6 h7
          obtain ⟨p, z, hpz, hz, hs, hstep⟩ := iter_ok hr
          have hpl := (List.getElem?_eq_some_iff.1 hz).1
          have hpos := pos_step (N := NI k n) (i := z) (m := m.tk) (by
            rw [at1_at hpz (by omega)]
            unfold NI at hat ⊢
            omega) hfr (fun hg => hgoN p z hz hg)
          rw [hstep] at hpos
          exact ih f (by omega) m' hpos.at_ hpos.fr h6 h7
/-! ### Threads -/
def thr (code : List Ins) (j : Nat) (x : Ins) : Ins :=
  if ((x.op == 11 || x.op == 12) && (decide (0 ≤ x.a) && decide (x.a < (code.length : Int)) && (x.a != (j : Int)) && ((atI code x.a.toNat).op == 11))) = true then ⟨x.op, (atI code x.a.toNat).a, x.b⟩ else x
theorem thr_ne {code : List Ins} {j : Nat} {x : Ins} (h : thr code j x ≠ x) : (x.op = 11 ∨ x.op = 12) ∧ 0 ≤ x.a ∧ x.a < (code.length : Int) ∧ (atI code x.a.toNat).op = 11 ∧ thr code j x = ⟨x.op, (atI code x.a.toNat).a, x.b⟩ := by
  unfold thr at h ⊢
  split at h
  · rename_i hc
    rw [if_pos hc]
    simp at hc
    exact ⟨hc.1, hc.2.1.1.1, hc.2.1.1.2, hc.2.2, rfl⟩
  · exact absurd rfl h
theorem run_at {code : List Ins} {lim : Int} {k : Nat} {m : Pm} (h6 : (runK code lim k m).1 ≠ 6) (h7 : (runK code lim k m).1 ≠ 7) :
    ∃ (f p : Nat) (x : Ins), k = f + 1 ∧ m.at_ = (p : Int) ∧ code[p]? = some x ∧ (m.steps == lim) = false ∧ runK code lim k m = match stepM x m.tk with | .ov e m' => (e, m') | .ok _ m' => runK code lim f m' := by
  cases k with
  | zero => exact absurd rfl h7
  | succ f =>
    cases hs : (m.steps == lim) with
    | true =>
      have hi : iterM code lim m = .ov 7 m := by unfold iterM; rw [hs]; rfl
      unfold runK at h7
      rw [hi] at h7
      exact absurd rfl h7
    | false =>
      by_cases ho : outsideB m.at_ code.length = true
      · have hi : iterM code lim m = .ov 6 m.tk := by unfold iterM; rw [hs, if_neg (by simp), if_pos ho]
        unfold runK at h6
        rw [hi] at h6
        exact absurd rfl h6
      · have hlt := not_outside (by simpa using ho)
        have hx : code[m.at_.toNat]? = some code[m.at_.toNat] := List.getElem?_eq_getElem hlt.2
        have hp : m.at_ = (m.at_.toNat : Int) := by omega
        obtain ⟨f', hf, _, e⟩ := run_one hp hx h7
        obtain rfl : f = f' := by omega
        exact ⟨f, m.at_.toNat, _, rfl, hp, hx, rfl, e⟩
theorem step_steps {x : Ins} {m : Pm} : (stepM x m.tk).st.steps = m.tk.steps := congrArg Prod.snd (kp_step x m.tk)
theorem tk_steps {m : Pm} (h0 : 0 ≤ m.steps) (h1 : m.steps ≤ 134217728) : m.tk.steps = m.steps + 1 := by
  show IntKind.i64.wrap (m.steps + 1) = _
  rw [wrap_in (by omega)]
theorem thr_run {code Q F : List Ins} {lim : Int} (hF : ∀ j : Nat, F[j]? = (Q[j]?).map (thr code j)) (hQ : Q.length = code.length) (hj : ∀ j : Nat, j < code.length → (atI code j).op = 11 → Q[j]? = code[j]?) (hl : lim ≤ 134217728) (f : Nat) :
    ∀ (f' : Nat) (m : Pm) (s : Int), 0 ≤ s → s ≤ m.steps → m.steps ≤ lim → (f : Int) = lim - m.steps + 1 → (f' : Int) = lim - s + 1 → (runK Q lim f m).1 ≠ 6 → (runK Q lim f m).1 ≠ 7 →
    ∃ t, t ≤ (runK Q lim f m).2.steps ∧ runK F lim f' (m.ss s) = ((runK Q lim f m).1, (runK Q lim f m).2.ss t) := by
  induction f using Nat.strongRecOn with
  | ind f ih =>
    intro f' m s hs0 hsm hml hf hf' h6 h7
    obtain ⟨f1, p, z, rfl, hp, hz, hs, e1⟩ := run_at h6 h7
    obtain ⟨g1, rfl⟩ : ∃ g, f' = g + 1 := ⟨f' - 1, by omega⟩
    have hne : m.steps ≠ lim := by simpa using hs
    have hs' : ((m.ss s).steps == lim) = false := by show (s == lim) = false; simp; omega
    have hzF : F[p]? = some (thr code p z) := by rw [hF, hz]; rfl
    have hpF : (m.ss s).at_ = (p : Int) := hp
    have hpl : p < code.length := by rw [← hQ]; exact (List.getElem?_eq_some_iff.1 hz).1
    have hts := tk_steps (m := m) (by omega) (by omega)
    have htk : (m.ss s).tk = m.tk.ss (s + 1) := by
      show ({ m with steps := IntKind.i64.wrap (s + 1) } : Pm) = { m with steps := s + 1 }
      rw [wrap_in (by omega)]
    have hstep := step_steps (x := z) (m := m)
    by_cases ht : thr code p z = z
    · rw [ht] at hzF
      have hi := iter_at (lim := lim) hpF hzF
      rw [hs', if_neg (by simp), htk, ss_step] at hi
      cases hr : stepM z m.tk with
      | ov e m' =>
        rw [hr] at e1 hi hstep
        refine ⟨s + 1, ?_, ?_⟩
        · rw [e1]
          show s + 1 ≤ m'.steps
          have : m'.steps = m.tk.steps := hstep
          omega
        · rw [e1, runK, hi]
          rfl
      | ok u m' =>
        rw [hr] at e1 hi hstep
        have hms : m'.steps = m.tk.steps := hstep
        rw [e1] at h6 h7 ⊢
        obtain ⟨t, ht1, ht2⟩ := ih f1 (by omega) g1 m' (s + 1) (by omega) (by omega) (by omega) (by omega) (by omega) h6 h7
        refine ⟨t, ht1, ?_⟩
        rw [runK, hi]
        exact ht2
    · obtain ⟨hop, ha0, ha1, haj, hte⟩ := thr_ne ht
      rw [hte] at hzF
      have hTl : z.a.toNat < code.length := by omega
      have hQT : Q[z.a.toNat]? = some (atI code z.a.toNat) := by rw [hj _ hTl haj]; exact atI_get hTl
      -- from a state that stands at the jump
      have hgo : ∀ r : List Int, runK Q lim (f1 + 1) m = runK Q lim f1 { m.tk.at1 with stack := r, at_ := z.a } → runK F lim (g1 + 1) (m.ss s) = runK F lim g1 { (m.ss s).tk.at1 with stack := r, at_ := (atI code z.a.toNat).a } → ∃ t, t ≤ (runK Q lim (f1 + 1) m).2.steps ∧ runK F lim (g1 + 1) (m.ss s) = ((runK Q lim (f1 + 1) m).1, (runK Q lim (f1 + 1) m).2.ss t) := by
        intro r q1 q2
        rw [q1] at h6 h7 ⊢
        rw [q2]
        obtain ⟨f2, rfl, hs2, e2⟩ := run_one (m := { m.tk.at1 with stack := r, at_ := z.a }) (p := z.a.toNat) (by show z.a = _; omega) hQT h7
        rw [st_jump haj] at e2
        have e2 : runK Q lim (f2 + 1) { m.tk.at1 with stack := r, at_ := z.a } = runK Q lim f2 { m.tk.at1.tk with stack := r, at_ := (atI code z.a.toNat).a } := e2
        rw [e2] at h6 h7 ⊢
        have hs2 : ¬ m.tk.steps = lim := by
          have h : (m.tk.steps == lim) = false := hs2
          simpa using h
        have ht2 := tk_steps (m := m.tk) (by omega) (by omega)
        have hm2 : ({ m.tk.at1.tk with stack := r, at_ := (atI code z.a.toNat).a } : Pm).steps = m.steps + 2 := by
          show m.tk.tk.steps = _
          omega
        obtain ⟨t, ht1, ht2⟩ := ih f2 (by omega) g1 { m.tk.at1.tk with stack := r, at_ := (atI code z.a.toNat).a } (s + 1) (by omega) (by omega) (by omega) (by omega) (by omega) h6 h7
        refine ⟨t, ht1, ?_⟩
        rw [htk]
        exact ht2
      rcases hop with hop | hop
      · rw [st_jump hop] at e1
        exact hgo m.stack e1 (run_fwd hpF hzF hs' (st_jump (x := ⟨z.op, (atI code z.a.toNat).a, z.b⟩) hop _))
      · rw [st_zero hop] at e1
        cases hst : m.stack with
        | nil =>
          have hn : topM m.tk.at1 = .ov 6 m.tk.at1 := by unfold topM; rw [show m.tk.at1.stack = [] from hst]
          rw [hn] at e1
          rw [e1] at h6
          exact absurd rfl h6
        | cons a r =>
          have hn : topM m.tk.at1 = .ok a { m.tk.at1 with stack := r } := by unfold topM; rw [show m.tk.at1.stack = a :: r from hst]
          have hnF : topM (m.ss s).tk.at1 = .ok a { (m.ss s).tk.at1 with stack := r } := by unfold topM; rw [show (m.ss s).tk.at1.stack = a :: r from hst]
          rw [hn] at e1
          have hzz : stepM ⟨z.op, (atI code z.a.toNat).a, z.b⟩ (m.ss s).tk = if (a == 0) = true then .ok () { (m.ss s).tk.at1 with stack := r, at_ := (atI code z.a.toNat).a } else .ok () { (m.ss s).tk.at1 with stack := r } := by
            rw [st_zero (x := ⟨z.op, (atI code z.a.toNat).a, z.b⟩) hop, hnF]; rfl
          by_cases ha : (a == 0) = true
          · refine hgo r ?_ ?_
            · rw [e1]
              show (match (if (a == 0) = true then Rz.ok () _ else Rz.ok () _) with | .ov e m' => (e, m') | .ok _ m' => runK Q lim f1 m') = _
              rw [if_pos ha]
            · rw [if_pos ha] at hzz
              exact run_fwd hpF hzF hs' hzz
          · rw [if_neg ha] at hzz
            have e2 : runK Q lim (f1 + 1) m = runK Q lim f1 { m.tk.at1 with stack := r } := by
              rw [e1]
              show (match (if (a == 0) = true then Rz.ok () _ else Rz.ok () _) with | .ov e m' => (e, m') | .ok _ m' => runK Q lim f1 m') = _
              rw [if_neg ha]
            have e3 := run_fwd (lim := lim) (f := g1) hpF hzF hs' hzz
            rw [e2] at h6 h7 ⊢
            rw [e3, htk]
            exact ih f1 (by omega) g1 { m.tk.at1 with stack := r } (s + 1) (by omega) (by show s + 1 ≤ m.tk.steps; omega) (by show m.tk.steps ≤ lim; omega) (by show (f1 : Int) = lim - m.tk.steps + 1; omega) (by omega) h6 h7
/-! ### All patterns, then all threads -/
def patS (mk : List Bool) (cur : List Ins) (k : Nat) : List Ins := if ((atI cur k).op == 1) = true then pushedL mk cur k else cur
def patN (mk : List Bool) (code : List Ins) : Nat → List Ins
  | 0 => code
  | i + 1 => patS mk (patN mk code i) i
theorem patS_len (mk : List Bool) (cur : List Ins) (k : Nat) : (patS mk cur k).length = cur.length := by
  unfold patS
  split
  · exact pushedL_len mk cur k
  · rfl
theorem patN_len (mk : List Bool) (code : List Ins) : ∀ i, (patN mk code i).length = code.length
  | 0 => rfl
  | i + 1 => by rw [patN, patS_len, patN_len mk code i]
theorem patOf_congr {mk : List Bool} {cur q : List Ins} {k : Nat} (hl : cur.length = q.length) (h : ∀ j, k ≤ j → atI cur j = atI q j) : patOf mk cur k = patOf mk q k := by
  have ho : ∀ (i : Nat) (o : Int), okAt mk cur (k + 1 + i) o = okAt mk q (k + 1 + i) o := fun i o => by unfold okAt; rw [hl, h (k + 1 + i) (by omega)]
  have ht : ∀ os, thenB mk cur k os = thenB mk q k os := fun os => by unfold thenB; simp only [ho]
  unfold patOf
  simp only [ht, h k (Nat.le_refl _), h (k + 1) (by omega), h (k + 2) (by omega)]
theorem thr_id {code : List Ins} {j : Nat} {x : Ins} (h : x.op ≠ 11) (h2 : x.op ≠ 12) : thr code j x = x := by
  unfold thr
  rw [if_neg (by simp [h, h2])]
theorem peep_apart {mk : List Bool} {code : List Ins} : ∀ i, i ≤ code.length → ∀ j : Nat, (peepN mk code i)[j]? = ((patN mk code i)[j]?).map fun x => if j < i then thr code j x else x := by
  intro i
  induction i with
  | zero => intro _ j; simp [peepN, patN]
  | succ i ih =>
    intro hi j
    have ih := ih (by omega)
    have hlc := peepN_len mk code i
    have hlq := patN_len mk code i
    rw [peepN, patN]
    generalize peepN mk code i = cur at ih hlc
    generalize patN mk code i = q at ih hlq
    have hge : ∀ j, i ≤ j → cur[j]? = q[j]? := fun j hj => by rw [ih j]; simp [show ¬ j < i by omega]
    have hat : ∀ j, i ≤ j → atI cur j = atI q j := fun j hj => by unfold atI; rw [hge j hj]
    have hqi : q[i]? = some (atI q i) := atI_get (by omega)
    have hother : ∀ {c d : List Ins}, c[j]? = cur[j]? → d[j]? = q[j]? → j ≠ i → c[j]? = (d[j]?).map fun x => if j < i + 1 then thr code j x else x := by
      intro c d h1 h2 hj
      rw [h1, h2, ih j]
      congr 1
      funext x
      by_cases h : j < i
      · rw [if_pos h, if_pos (by omega)]
      · rw [if_neg h, if_neg (by omega)]
    unfold stepL patS
    rw [hat i (Nat.le_refl _)]
    by_cases h1 : ((atI q i).op == 11 || (atI q i).op == 12) = true
    · rw [if_pos h1, if_neg (by simp at h1 ⊢; omega)]
      by_cases hj : j = i
      · subst hj
        rw [hqi, Option.map_some, if_pos (by omega)]
        unfold threadL thr
        rw [hat j (Nat.le_refl _)]
        by_cases hc : (decide (0 ≤ (atI q j).a) && decide ((atI q j).a < (code.length : Int)) && ((atI q j).a != (j : Int)) && ((atI code (atI q j).a.toNat).op == 11)) = true
        · rw [if_pos hc, if_pos (by rw [h1, hc]; rfl), List.getElem?_set, if_pos rfl, if_pos (by omega)]
        · rw [if_neg hc, if_neg (by rw [h1]; simpa using hc), hge j (Nat.le_refl _), hqi]
      · refine hother ?_ rfl hj
        unfold threadL
        split
        · rw [List.getElem?_set, if_neg (Ne.symm hj)]
        · rfl
    · rw [if_neg h1]
      have h1' : (atI q i).op ≠ 11 ∧ (atI q i).op ≠ 12 := by simpa using h1
      by_cases h2 : ((atI q i).op == 1) = true
      · rw [if_pos h2, if_pos h2, pushed_pat, pushed_pat, patOf_congr (hlc.trans hlq.symm) hat]
        cases hp : patOf mk q i with
        | none =>
          show cur[j]? = (q[j]?).map _
          by_cases hj : j = i
          · subst hj
            rw [hge j (Nat.le_refl _), hqi, Option.map_some, if_pos (by omega), thr_id h1'.1 h1'.2]
          · exact hother rfl rfl hj
        | some r =>
          obtain ⟨n, x⟩ := r
          have hP := patOf_some hp
          show (layL cur i n x)[j]? = ((layL q i n x)[j]?).map _
          have g1 := lay_get (cur := cur) (k := i) (n := n) (x := x) (by have := hP.len; omega) hP.two j
          have g2 := lay_get (cur := q) (x := x) hP.len hP.two j
          by_cases c1 : j = i + n - 1
          · rw [g1, g2, if_pos c1, if_pos c1, Option.map_some, if_neg (show ¬ j < i + 1 by have := hP.two; omega)]
          · rw [if_neg c1] at g1 g2
            by_cases c2 : i ≤ j ∧ j < i + n
            · rw [g1, g2, if_pos c2, if_pos c2, Option.map_some, thr_id (by decide) (by decide)]
              simp
            · rw [if_neg c2] at g1 g2
              exact hother g1 g2 (by have := hP.two; omega)
      · rw [if_neg h2, if_neg h2]
        by_cases hj : j = i
        · subst hj
          rw [hge j (Nat.le_refl _), hqi, Option.map_some, if_pos (by omega), thr_id h1'.1 h1'.2]
        · exact hother rfl rfl hj
structure QI (mk : List Bool) (code q : List Ins) : Prop where
  len : q.length = code.length
  go : ∀ (j : Nat) (y : Ins), q[j]? = some y → goes y.op = true → 0 ≤ y.a → y.a < q.length → mk[y.a.toNat]? = some true
  jmp : ∀ j : Nat, j < code.length → (atI code j).op = 11 → q[j]? = code[j]?
  chk : ∀ (j : Nat) (y : Ins), q[j]? = some y → insBad y = false
theorem qi_zero {code : List Ins} {data : Int} (hz : checkImg code data = 0) : QI (marks code) code code := by
  refine ⟨rfl, fun j y hj hg h0 h1 => ?_, fun _ _ _ => rfl, fun j y hj => ?_⟩
  · have hjl := (List.getElem?_eq_some_iff.1 hj).1
    have ht : y.a.toNat < code.length := by omega
    unfold marks mk
    rw [List.getElem?_map, List.getElem?_range ht]
    simp only [Option.map_some, Option.some.injEq, Bool.or_eq_true]
    right
    rw [List.any_eq_true]
    refine ⟨j, by simpa using hjl, ?_⟩
    unfold hit
    rw [hj]
    simp [hg, h0, h1]
  · have h := hz
    unfold checkImg at h
    split at h
    · cases h
    · split at h
      · cases h
      · rename_i hb
        have hb : code.any insBad = false := by simpa using hb
        exact by simpa using (List.any_eq_false.1 hb) y (List.mem_of_getElem? hj)
theorem qi_step {mk : List Bool} {code q : List Ins} (h : QI mk code q) (k : Nat) : QI mk code (patS mk q k) := by
  unfold patS
  split
  · rename_i h1
    have h1 : (atI q k).op = 1 := by simpa using h1
    rw [pushed_pat]
    cases hp : patOf mk q k with
    | none => exact h
    | some r =>
      obtain ⟨n, x⟩ := r
      have hP := patOf_some hp
      have hlen : (layL q k n x).length = q.length := layL_len q k n x
      have hkl := hP.len
      have hn := hP.two
      have hg := fun j => lay_get (cur := q) (x := x) hP.len hP.two j
      have hk1 : q[k + 1]? = some (atI q (k + 1)) := atI_get (by omega)
      show QI mk code (layL q k n x)
      refine ⟨by rw [hlen, h.len], fun j y hj hgo h0 hl => ?_, fun j hj ho => ?_, fun j y hj => ?_⟩
      · rw [hlen] at hl
        rw [hg j] at hj
        split at hj
        · injection hj with hj
          subst hj
          rcases hP.is with ⟨_, _, _, _, hx⟩ | ⟨_, o1, _, hx⟩ | ⟨_, _, hx⟩ | ⟨_, _, hx⟩ | ⟨_, _, _, hx⟩ | ⟨_, _, hx⟩
          · rw [hx] at hgo; simp [goes] at hgo
          · rw [hx] at h0 hl ⊢
            exact h.go (k + 1) (atI q (k + 1)) hk1 (by simp [goes, o1]) h0 hl
          · rw [hx] at hgo; simp [goes] at hgo
          · rw [hx] at hgo; simp [goes] at hgo
          · rw [hx] at hgo; simp [goes] at hgo
          · rw [hx] at hgo; simp [goes] at hgo
        · split at hj
          · injection hj with hj
            subst hj
            simp [goes] at hgo
          · exact h.go j y hj hgo h0 hl
      · have hq := h.jmp j hj ho
        have hqa : (atI q j).op = 11 := by unfold atI at ho ⊢; rw [hq]; exact ho
        have hout : ¬ (k ≤ j ∧ j < k + n) := by
          intro hc
          by_cases hj0 : j = k
          · subst hj0; rw [h1] at hqa; cases hqa
          · by_cases hj1 : j = k + 1
            · subst hj1
              rcases hP.is with ⟨_, o1, _, _, _⟩ | ⟨_, o1, _, _⟩ | ⟨_, o1, _⟩ | ⟨_, o1, _⟩ | ⟨_, o1, _, _⟩ | ⟨_, o1, _⟩ <;> rw [o1] at hqa <;> cases hqa
            · obtain rfl : j = k + 2 := by omega
              rcases hP.is with ⟨_, _, o2, _, _⟩ | ⟨hn2, _⟩ | ⟨hn2, _⟩ | ⟨hn2, _⟩ | ⟨hn2, _⟩ | ⟨hn2, _⟩
              · rw [o2] at hqa; cases hqa
              all_goals omega
        rw [hg j, if_neg (by omega), if_neg hout, hq]
      · rw [hg j] at hj
        split at hj
        · injection hj with hj
          subst hj
          rcases hP.is with ⟨_, _, _, _, hx⟩ | ⟨_, o1, _, hx⟩ | ⟨_, _, hx⟩ | ⟨_, _, hx⟩ | ⟨_, _, _, hx⟩ | ⟨_, _, hx⟩ <;> rw [hx] <;> rfl
        · split at hj
          · injection hj with hj
            subst hj
            rfl
          · exact h.chk j y hj
  · exact h
theorem qi_all {code : List Ins} {data : Int} (hz : checkImg code data = 0) : ∀ i, QI (marks code) code (patN (marks code) code i)
  | 0 => qi_zero hz
  | i + 1 => qi_step (qi_all hz i) i
theorem pats_run {code : List Ins} {data : Int} (hz : checkImg code data = 0) {lim : Int} {f : Nat} {m : Pm} (hm : m.at_ = 0) (hfr : ∀ g ∈ m.frames, g.2 = 0) (h6 : (runK code lim f m).1 ≠ 6) (h7 : (runK code lim f m).1 ≠ 7) : ∀ i, runK (patN (marks code) code i) lim f m = runK code lim f m
  | 0 => rfl
  | i + 1 => by
    have ih := pats_run hz hm hfr h6 h7 i
    have hq := qi_all hz i
    have hl := (check_len hz).2
    rw [patN]
    unfold patS
    split
    · rename_i h1
      have h1 : (atI (patN (marks code) code i) i).op = 1 := by simpa using h1
      rw [pushed_pat]
      cases hp : patOf (marks code) (patN (marks code) code i) i with
      | none => exact ih
      | some r =>
        obtain ⟨n, x⟩ := r
        refine (pat_run h1 (patOf_some hp) (by rw [hq.len]; exact hl) hq.go f m ?_ ?_ (by rw [ih]; exact h6) (by rw [ih]; exact h7)).trans ih
        · rw [hm]; unfold NI; omega
        · intro g hg; rw [hfr g hg]; unfold NI; omega
    · exact ih
theorem peep_chk {code : List Ins} {data : Int} (hz : checkImg code data = 0) : checkImg (peepL code) data = 0 := by
  have hl : (peepL code).length = code.length := peepN_len _ _ _
  have hb : (peepL code).any insBad = false := by
    refine any_false fun j x hj => ?_
    unfold peepL at hj
    rw [peep_apart _ (Nat.le_refl _) j] at hj
    obtain ⟨y, hy, hx⟩ := Option.map_eq_some_iff.1 hj
    have hy' := (qi_all hz code.length).chk j y hy
    have hop : x.op = y.op := by
      rw [← hx]
      split
      · unfold thr; split <;> rfl
      · rfl
    unfold insBad at hy' ⊢
    rw [hop]
    exact hy'
  unfold checkImg at hz ⊢
  rw [hl]
  split at hz
  · cases hz
  · rename_i h1
    rw [if_neg h1, hb, if_neg (by simp)]
    split at hz
    · cases hz
    · exact hz
theorem peep_len (code : List Ins) : (peepL code).length = code.length := peepN_len _ _ _
theorem peep_same {code : List Ins} {data : Int} {inp : List Int} {ticks steps : Int} (hz : checkImg code data = 0) :
    machE (peepL code) data inp ticks steps = machE code data inp ticks steps ∧
    (machE code data inp ticks steps = 0 → (machR code data inp ticks steps).1.fin ≠ 6 → (machR code data inp ticks steps).1.fin ≠ 7 →
      (machR (peepL code) data inp ticks steps).1 = (machR code data inp ticks steps).1 ∧ (machR (peepL code) data inp ticks steps).2 ≤ (machR code data inp ticks steps).2) := by
  have hE : machE (peepL code) data inp ticks steps = machE code data inp ticks steps := by unfold machE; rw [if_pos hz, if_pos (peep_chk hz)]
  refine ⟨hE, fun he h6 h7 => ?_⟩
  obtain ⟨_, _, ht, hs⟩ := machE_zero he
  unfold machR at h6 h7 ⊢
  rw [if_pos he] at h6 h7
  rw [hE, if_pos he, if_pos he]
  have hp := pats_run hz (lim := steps) (f := steps.toNat + 1) (m := startM ticks inp data) rfl (by simp [startM]) h6 h7 code.length
  have hq := qi_all hz code.length
  obtain ⟨t, h1, h2⟩ := thr_run (lim := steps) (code := code) (Q := patN (marks code) code code.length) (F := peepL code) (fun j => by
      unfold peepL
      rw [peep_apart _ (Nat.le_refl _) j]
      rcases Nat.lt_or_ge j code.length with hj | hj
      · simp [hj]
      · rw [List.getElem?_eq_none (by rw [patN_len]; omega)]; rfl) hq.len hq.jmp hs.2 (steps.toNat + 1) (steps.toNat + 1) (startM ticks inp data) 0 (Int.le_refl _) (Int.le_refl _) (by show (0 : Int) ≤ steps; omega) (by show _ = steps - 0 + 1; omega) (by omega) (by rw [hp]; exact h6) (by rw [hp]; exact h7)
  rw [hp] at h1 h2
  have hss : (startM ticks inp data).ss 0 = startM ticks inp data := rfl
  rw [hss] at h2
  dsimp only
  rw [h2]
  exact ⟨rfl, h1⟩

theorem yl_neF {P : Program} {l : List (Nat × Value)} {W : World → Prop} {d : Option Tmp} {ty : TypeId} {pos : String} {af : Array Edge} {g : Option (Nat × Bool)} {t u : TypeId} {x y : Operand} {k : IntKind} {a b : Int} (hx : opv l x = some (.int k a)) (hy : opv l y = some (.int k b)) (h : a = b) : Yl P l W ⟨d, .binOp .neq t x y u, ty, pos, af, g⟩ (.bool false) := by
  have := yl_ne (P := P) (W := W) (d := d) (t := t) (u := u) (ty := ty) (pos := pos) (af := af) (g := g) hx hy
  rwa [show (a != b) = false by simpa using h] at this
theorem en14 : Enters Try.prog 14 := enters_of Try.func14 (by kernel_rfl) rfl
theorem en23 : Enters Try.prog 23 := enters_of Try.func23 (by kernel_rfl) rfl

theorem peepSame_any (H : View) (a : Option Addr) (c : Nat) (code : List Ins) (data : Int) (Hi : View) (ai : Option Addr) (ci : Nat) (inp : List Int) (ticks steps : Int) (w : World) (hH : Le H w) (hm : Sl rdIns 3 H a c code) (hHi : Le Hi w) (hmi : Sl rdI 1 Hi ai ci inp) :
    Calls Try.prog 8 #[.agg #[.slice a code.length c, .int .i64 data], .slice ai inp.length ci, .int .i64 ticks, .int .i64 steps] w fun e w' => e = .returned (.bool true) ∧ Ext w w' := by
  refine enter Try.func8 rfl 87 rfl rfl ?_
  refine WC.world (W' := Ws w [] [] [H, Hi]) (fun _ e => by subst e; exact Ws.init (by simp [hH, hHi])) ?_
  refine WC.seq ?_
  refine WC.region ?_
  refine WL.box (.inl rfl) rfl rfl fun b4 => ?_
  refine WL.val (.inl rfl) rfl (yl_assign rfl) ?_
  refine WL.nil ?_
  refine WE.then_normal ?_
  refine WC.seq ?_
  refine WC.region ?_
  refine WL.val (.inl rfl) rfl (yl_ldka 0 rfl rfl ag24 rfl) ?_
  refine WL.calld (.inl rfl) rfl en10 rfl (fun r : Option Addr × Nat => .tuple #[.agg #[.slice r.1 (peepR code data).1.length r.2, .int .i64 (peepR code data).2.1], .int .i64 (peepR code data).2.2]) (fun H r => Sl rdIns 3 H r.1 r.2 (peepR code data).1) (fun w hw => peep_any H a c code data w (hw.vs _ (by simp)) hm) ?_
  intro P r20 hfP hp
  refine WL.val (.inl rfl) rfl (yl_move rfl) ?_
  refine WL.val (.inl rfl) rfl (yl_extract rfl rfl) ?_
  refine WL.val (.inl rfl) rfl (yl_extract rfl rfl) ?_
  refine WL.alloc (.inl rfl) rfl zr24 fun b9 => ?_
  refine WL.store 0 (.inl rfl) rfl rfl rfl sz24 rfl rfl rfl ?_
  refine WL.val (.inl rfl) rfl (yl_assign rfl) ?_
  refine WL.nil ?_
  refine WE.then_normal ?_
  refine WC.seq ?_
  refine WC.seq ?_
  refine WC.region ?_
  refine WL.val (.inl rfl) rfl (yl_move rfl) ?_
  refine WL.val (.inl rfl) rfl (yl_ne rfl rfl) ?_
  refine WL.nil ?_
  refine WE.then_normal ?_
  refine WC.cond rfl (fun hc0 => ?_) (fun hc0 => ?_)
  ·
    refine WC.seq ?_
    refine WC.region ?_
    refine WL.callp (.inl rfl) rfl en14 rfl (fun w hw => peepBegun_any w) ?_
    refine WL.val (.inl rfl) rfl (yl_assign rfl) ?_
    refine WL.nil ?_
    refine WE.then_normal ?_
    refine WC.ret ?_
    refine WE.then_ret ?_
    refine WE.ret1 rfl rfl fun w' hw => ?_
    exact ⟨rfl, hw.fr⟩
  ·
    have hz : checkImg code data = 0 := by
      by_cases hz : checkImg code data = 0
      · exact hz
      · simp [peepR, hz] at hc0
    have hP : peepR code data = (peepL code, data, 0) := by simp [peepR, hz]
    rw [hP] at hp
    rw [hP]
    obtain ⟨hEE, hps⟩ := peep_same (inp := inp) (ticks := ticks) (steps := (fewN steps)) hz
    refine WC.skip ?_
    refine WE.then_normal ?_
    refine WC.seq ?_
    refine WC.region ?_
    refine WL.val (.inl rfl) rfl (yl_move rfl) ?_
    refine WL.callp (.inl rfl) rfl en23 rfl (fun w hw => few_any _ w) ?_
    refine WL.val (.inl rfl) rfl (yl_assign rfl) ?_
    refine WL.nil ?_
    refine WE.then_normal ?_
    refine WC.seq ?_
    refine WC.region ?_
    refine WL.val (.inl rfl) rfl (yl_ldka 1 rfl rfl ag24 rfl) ?_
    refine WL.val (.inl rfl) rfl (yl_move rfl) ?_
    refine WL.val (.inl rfl) rfl (yl_move rfl) ?_
    refine WL.val (.inl rfl) rfl (yl_move rfl) ?_
    refine WL.calld (.inl rfl) rfl en24 rfl (fun r : (Option Addr × Nat) × (Option Addr × Nat) => .tuple #[.agg #[.int .i64 (machR code data inp ticks (fewN steps)).1.fin, .slice r.1.1 (machR code data inp ticks (fewN steps)).1.out.length r.1.2, .slice r.2.1 (machR code data inp ticks (fewN steps)).1.data.length r.2.2, .int .i64 (machR code data inp ticks (fewN steps)).1.ticks], .int .i64 (machR code data inp ticks (fewN steps)).2, .int .i64 (machE code data inp ticks (fewN steps))]) (fun K r => Sl rdI 1 K r.1.1 r.1.2 (machR code data inp ticks (fewN steps)).1.out ∧ Sl rdI 1 K r.2.1 r.2.2 (machR code data inp ticks (fewN steps)).1.data) (fun w hw => machRun_any H a c code data Hi ai ci inp ticks (fewN steps) w (hw.vs _ (by simp)) hm (hw.vs _ (by simp)) hmi) ?_
    intro K33 r33 hf33 hk33
    refine WL.val (.inl rfl) rfl (yl_move rfl) ?_
    refine WL.val (.inl rfl) rfl (yl_extract rfl rfl) ?_
    refine WL.val (.inl rfl) rfl (yl_extract rfl rfl) ?_
    refine WL.val (.inl rfl) rfl (yl_extract rfl rfl) ?_
    refine WL.alloc (.inl rfl) rfl zr53 fun b12 => ?_
    refine WL.store 0 (.inl rfl) rfl rfl rfl sz53 rfl rfl rfl ?_
    refine WL.val (.inl rfl) rfl (yl_assign rfl) ?_
    refine WL.val (.inl rfl) rfl (yl_assign rfl) ?_
    refine WL.nil ?_
    refine WE.then_normal ?_
    refine WC.seq ?_
    refine WC.region ?_
    refine WL.val (.inl rfl) rfl (yl_ldka 1 rfl rfl ag24 rfl) ?_
    refine WL.val (.inl rfl) rfl (yl_move rfl) ?_
    refine WL.val (.inl rfl) rfl (yl_move rfl) ?_
    refine WL.val (.inl rfl) rfl (yl_move rfl) ?_
    refine WL.calld (.inl rfl) rfl en24 rfl (fun r : (Option Addr × Nat) × (Option Addr × Nat) => .tuple #[.agg #[.int .i64 (machR (peepL code) data inp ticks (fewN steps)).1.fin, .slice r.1.1 (machR (peepL code) data inp ticks (fewN steps)).1.out.length r.1.2, .slice r.2.1 (machR (peepL code) data inp ticks (fewN steps)).1.data.length r.2.2, .int .i64 (machR (peepL code) data inp ticks (fewN steps)).1.ticks], .int .i64 (machR (peepL code) data inp ticks (fewN steps)).2, .int .i64 (machE (peepL code) data inp ticks (fewN steps))]) (fun K r => Sl rdI 1 K r.1.1 r.1.2 (machR (peepL code) data inp ticks (fewN steps)).1.out ∧ Sl rdI 1 K r.2.1 r.2.2 (machR (peepL code) data inp ticks (fewN steps)).1.data) (fun w hw => machRun_any P r20.1 r20.2 (peepL code) data Hi ai ci inp ticks (fewN steps) w (hw.vs _ (by simp)) hp (hw.vs _ (by simp)) hmi) ?_
    intro K42 r42 hf42 hk42
    refine WL.val (.inl rfl) rfl (yl_move rfl) ?_
    refine WL.val (.inl rfl) rfl (yl_extract rfl rfl) ?_
    refine WL.val (.inl rfl) rfl (yl_extract rfl rfl) ?_
    refine WL.val (.inl rfl) rfl (yl_extract rfl rfl) ?_
    refine WL.alloc (.inl rfl) rfl zr53 fun b15 => ?_
    refine WL.store 0 (.inl rfl) rfl rfl rfl sz53 rfl rfl rfl ?_
    refine WL.val (.inl rfl) rfl (yl_assign rfl) ?_
    refine WL.val (.inl rfl) rfl (yl_assign rfl) ?_
    refine WL.nil ?_
    refine WE.then_normal ?_
    refine WC.seq ?_
    refine WC.seq ?_
    refine WC.region ?_
    refine WL.val (.inl rfl) rfl (yl_move rfl) ?_
    refine WL.val (.inl rfl) rfl (yl_move rfl) ?_
    refine WL.val (.inl rfl) rfl (yl_neF rfl rfl hEE.symm) ?_
    refine WL.val (.inl rfl) rfl (yl_move rfl) ?_
    apply WL.or 3 rfl rfl rfl rfl (.inl rfl) rfl rfl rfl rfl rfl
    ·
      intro hg0
      refine WL.val (.inr ⟨_, _, _, rfl, rfl, rfl⟩) rfl (yl_ldka 2 rfl rfl ag24 rfl) ?_
      refine WL.callp (.inr ⟨_, _, _, rfl, rfl, rfl⟩) rfl en28 rfl (fun w hw => by
          have := check_any P r20.1 r20.2 (peepL code) data w (hw.vs _ (by simp)) hp
          rw [peep_chk hz] at this
          exact this) ?_
      refine WL.val (.inr ⟨_, _, _, rfl, rfl, rfl⟩) rfl (yl_ne rfl rfl) ?_
      exact Got.intro 3 rfl rfl rfl
    refine WL.val (.inl rfl) rfl (yl_move rfl) ?_
    apply WL.or 7 rfl rfl rfl rfl (.inl rfl) rfl rfl rfl rfl rfl
    ·
      intro hg1
      refine WL.val (.inr ⟨_, _, _, rfl, rfl, rfl⟩) rfl (yl_fa fo24_0 rfl) ?_
      refine WL.val (.inr ⟨_, _, _, rfl, rfl, rfl⟩) rfl (yl_ldk 2 rfl rfl rfl na22) ?_
      refine WL.val (.inr ⟨_, _, _, rfl, rfl, rfl⟩) rfl (yl_len es22 rfl) ?_
      refine WL.val (.inr ⟨_, _, _, rfl, rfl, rfl⟩) rfl (yl_fa fo24_0 rfl) ?_
      refine WL.val (.inr ⟨_, _, _, rfl, rfl, rfl⟩) rfl (yl_ldk 3 rfl rfl rfl na22) ?_
      refine WL.val (.inr ⟨_, _, _, rfl, rfl, rfl⟩) rfl (yl_len es22 rfl) ?_
      refine WL.val (.inr ⟨_, _, _, rfl, rfl, rfl⟩) rfl (yl_neF rfl rfl (by rw [peep_len])) ?_
      exact Got.intro 7 rfl rfl rfl
    refine WL.nil ?_
    refine WE.then_normal ?_
    refine WC.cond rfl (fun hc1 => ?_) (fun hc1 => ?_)
    ·
      simp at hc1
    ·
      refine WC.skip ?_
      refine WE.then_normal ?_
      refine WC.seq ?_
      refine WC.seq ?_
      refine WC.region ?_
      refine WL.val (.inl rfl) rfl (yl_move rfl) ?_
      refine WL.val (.inl rfl) rfl (yl_ne rfl rfl) ?_
      refine WL.val (.inl rfl) rfl (yl_move rfl) ?_
      apply WL.or 3 rfl rfl rfl rfl (.inl rfl) rfl rfl rfl rfl rfl
      ·
        intro hg2
        refine WL.val (.inr ⟨_, _, _, rfl, rfl, rfl⟩) rfl (yl_fa fo53_0 rfl) ?_
        refine WL.val (.inr ⟨_, _, _, rfl, rfl, rfl⟩) rfl (yl_ldk 1 rfl rfl rfl na3) ?_
        refine WL.val (.inr ⟨_, _, _, rfl, rfl, rfl⟩) rfl (yl_eq rfl rfl) ?_
        exact Got.intro 3 rfl rfl rfl
      refine WL.val (.inl rfl) rfl (yl_move rfl) ?_
      apply WL.or 3 rfl rfl rfl rfl (.inl rfl) rfl rfl rfl rfl rfl
      ·
        intro hg3
        refine WL.val (.inr ⟨_, _, _, rfl, rfl, rfl⟩) rfl (yl_fa fo53_0 rfl) ?_
        refine WL.val (.inr ⟨_, _, _, rfl, rfl, rfl⟩) rfl (yl_ldk 1 rfl rfl rfl na3) ?_
        refine WL.val (.inr ⟨_, _, _, rfl, rfl, rfl⟩) rfl (yl_eq rfl rfl) ?_
        exact Got.intro 3 rfl rfl rfl
      refine WL.nil ?_
      refine WE.then_normal ?_
      refine WC.cond rfl (fun hc2 => ?_) (fun hc2 => ?_)
      ·
        refine WC.seq ?_
        refine WC.region ?_
        refine WL.callp (.inl rfl) rfl en14 rfl (fun w hw => peepBegun_any w) ?_
        refine WL.val (.inl rfl) rfl (yl_assign rfl) ?_
        refine WL.nil ?_
        refine WE.then_normal ?_
        refine WC.ret ?_
        refine WE.then_ret ?_
        refine WE.ret1 rfl rfl fun w' hw => ?_
        exact ⟨rfl, hw.fr⟩
      ·
        have hE : (machE code data inp ticks (fewN steps)) = 0 ∧ (machR code data inp ticks (fewN steps)).1.fin ≠ 6 ∧ (machR code data inp ticks (fewN steps)).1.fin ≠ 7 := by simp at hc2; exact ⟨hc2.1.1, hc2.1.2, hc2.2⟩
        obtain ⟨hE, h6, h7⟩ := hE
        refine WC.skip ?_
        refine WE.then_normal ?_
        refine WC.seq ?_
        refine WC.region ?_
        refine WL.callp (.inl rfl) rfl en14 rfl (fun w hw => peepBegun_any w) ?_
        refine WL.val (.inl rfl) rfl (yl_move rfl) ?_
        apply WL.and 3 rfl rfl rfl rfl (.inl rfl) rfl rfl rfl rfl rfl
        ·
          intro hg4
          refine WL.val (.inr ⟨_, _, _, rfl, rfl, rfl⟩) rfl (yl_ldka 0 rfl rfl ag53 rfl) ?_
          refine WL.val (.inr ⟨_, _, _, rfl, rfl, rfl⟩) rfl (yl_ldka 1 rfl rfl ag53 rfl) ?_
          refine WL.callp (.inr ⟨_, _, _, rfl, rfl, rfl⟩) rfl en29 rfl (fun w hw => sameResults_any K42 K33 K42 K33 r42.1.1 r33.1.1 r42.2.1 r33.2.1 r42.1.2 r33.1.2 r42.2.2 r33.2.2 (machR (peepL code) data inp ticks (fewN steps)).1 (machR code data inp ticks (fewN steps)).1 w (hw.vs K42 (by simp)) (hw.vs K33 (by simp)) (hw.vs K42 (by simp)) (hw.vs K33 (by simp)) hk42.1 hk33.1 hk42.2 hk33.2) ?_
          exact Got.intro 3 rfl rfl rfl
        refine WL.val (.inl rfl) rfl (yl_move rfl) ?_
        apply WL.and 3 rfl rfl rfl rfl (.inl rfl) rfl rfl rfl rfl rfl
        ·
          intro hg5
          refine WL.val (.inr ⟨_, _, _, rfl, rfl, rfl⟩) rfl (yl_move rfl) ?_
          refine WL.val (.inr ⟨_, _, _, rfl, rfl, rfl⟩) rfl (yl_move rfl) ?_
          refine WL.val (.inr ⟨_, _, _, rfl, rfl, rfl⟩) rfl (yl_le rfl rfl) ?_
          exact Got.intro 3 rfl rfl rfl
        refine WL.val (.inl rfl) rfl (yl_assign rfl) ?_
        refine WL.nil ?_
        refine WE.then_normal ?_
        refine WC.ret ?_
        refine WE.ret1 rfl rfl fun w' hw => ?_
        obtain ⟨g1, g2⟩ := hps hE h6 h7
        exact ⟨by simp [g1, g2], hw.fr⟩

end Go.Proofs.Ytagoencpeflmlaa
