/- Walks of the machine of the document and of the law, and plain laws on what they compute; each theorem tells its own conditions. -/
import Derived.Test.YtagoencpeflmlaaBwN5
namespace Go.Proofs.Ytagoencpeflmlaa
open Go.Bw
set_option linter.unusedVariables false
set_option linter.unusedSimpArgs false

/-! ### The machine and the gear do the same -/
structure Pm.Inv (m : Pm) : Prop where
  stk : m.stack.length ≤ 2048
  tk0 : 0 ≤ m.ticks
  tkl : m.ticks ≤ m.limit
  lim : m.limit ≤ 2000
  out : m.out.length ≤ 200
  frs : 1 ≤ m.frames.length
def Pm.gr (m : Pm) (x f : Int) : Pg := ⟨{ m with at_ := x, steps := 0 }, f, false⟩
def Done (e : Int) (m : Pm) (g : Pg) : Prop := g.over = true ∧ g.fin = e ∧ g.m.out = m.out ∧ g.m.data = m.data ∧ g.m.ticks = m.ticks
def Sim (r : Rz Unit) (g : Pg) : Prop := match r with
  | .ok _ m => ∃ f, g = m.gr m.at_ f
  | .ov e m => Done e m g
theorem Done.at {e : Int} {m : Pm} {g : Pg} (h : Done e m g) (n : Int) : Done e m (setAt n g) := h
theorem stopG_over {g : Pg} (e : Int) (h : g.over = true) : stopG e g = g := by unfold stopG; rw [h]; rfl
theorem stopG_not {g : Pg} (e : Int) (h : g.over = false) : stopG e g = ⟨g.m, e, true⟩ := by unfold stopG; rw [h]; rfl
theorem Done.stop {e : Int} {m : Pm} {g : Pg} (h : Done e m g) (n : Int) : Done e m (stopG n g) := by rw [stopG_over n h.1]; exact h
theorem Done.push {e : Int} {m : Pm} {g : Pg} (h : Done e m g) (n : Int) : Done e m (pushG n g) := by
  unfold pushG
  split
  · rw [stopG_over _ h.1, putG_over h.1]; exact h
  · rw [putG_over h.1]; exact h
theorem Done.pop {e : Int} {m : Pm} {g : Pg} (h : Done e m g) : Done e m (popG g).2 := by
  unfold popG
  split
  · exact h.stop 6
  · exact h
theorem Done.has {e : Int} {m : Pm} {g : Pg} (h : Done e m g) (a : Int) (n : Nat) : Done e m (hasG a n g) := by
  unfold hasG
  cases outsideB a n
  · exact h
  · exact h.stop 6
theorem Done.when {e : Int} {m : Pm} {g : Pg} (h : Done e m g) (k : Pg → Pg) : Done e m (whenG g k) := by rw [whenT h.1]; exact h
theorem Done.out {e : Int} {m : Pm} {g : Pg} (h : Done e m g) (n : Int) : Done e m (outG n g) := by
  unfold outG
  rw [if_neg (by rw [h.1]; simp)]
  unfold putOut
  rw [h.1]
  exact h
theorem Done.ite {e : Int} {m : Pm} {a b : Pg} {c : Prop} [Decidable c] (ha : Done e m a) (hb : Done e m b) : Done e m (if c then a else b) := by
  split
  · exact ha
  · exact hb
theorem Done.math {e : Int} {m : Pm} {g : Pg} (h : Done e m g) (op nx : Int) : Done e m (mathG op nx g) := by
  unfold mathG
  rw [if_pos h.pop.pop.1]
  exact h.pop.pop
theorem stop_gr (m : Pm) (x f e : Int) : Done e m (stopG e (m.gr x f)) := by
  rw [stopG_not e rfl]
  exact ⟨rfl, rfl, rfl, rfl, rfl⟩
theorem sim_top {m : Pm} {x f : Int} {k : Int → Pm → Rz Unit} {K : Int × Pg → Pg} (h : ∀ a r, m.stack = a :: r → Sim (k a { m with stack := r }) (K (a, Pm.gr { m with stack := r } x f))) (ho : ∀ g, Done 6 m g → Done 6 m (K (0, g))) :
    Sim ((topM m).bind k) (K (popG (m.gr x f))) := by
  unfold topM popG
  cases hs : m.stack with
  | nil =>
    rw [show (m.gr x f).m.stack = [] from hs]
    exact ho _ (stop_gr m x f 6)
  | cons a r =>
    rw [show (m.gr x f).m.stack = a :: r from hs]
    exact h a r hs
theorem sim_push {m : Pm} {x f nx : Int} (n : Int) (hl : m.stack.length ≤ 2048) (ha : nx = m.at_) : Sim (pushM n m) (setAt nx (pushG n (m.gr x f))) := by
  subst ha
  unfold pushM pushG
  by_cases h : m.stack.length = 2048
  · rw [if_pos h, if_pos (show 2048 ≤ (m.gr x f).m.stack.length by show 2048 ≤ m.stack.length; omega), putG_over (stop_gr m x f 6).1]
    exact stop_gr m x f 6
  · rw [if_neg h, if_neg (show ¬ 2048 ≤ (m.gr x f).m.stack.length by show ¬ 2048 ≤ m.stack.length; omega), putG_not rfl]
    exact ⟨f, rfl⟩
theorem sim_stop {m : Pm} {x f nx : Int} (e : Int) : Sim (.ov e m) (setAt nx (stopG e (m.gr x f))) := stop_gr m x f e
theorem sim_tick {m : Pm} {x f nx : Int} (h : m.ticks ≤ m.limit) (ha : nx = m.at_) : Sim (tickM m) (setAt nx (tickG (m.gr x f))) := by
  subst ha
  unfold tickM tickG
  by_cases hc : m.ticks = m.limit
  · rw [if_pos hc, if_pos (show (m.gr x f).m.limit ≤ (m.gr x f).m.ticks by show m.limit ≤ m.ticks; omega)]
    have hd := stop_gr m x f 3
    unfold incG
    rw [hd.1]
    exact hd
  · rw [if_neg hc, if_neg (show ¬ (m.gr x f).m.limit ≤ (m.gr x f).m.ticks by show ¬ m.limit ≤ m.ticks; omega)]
    exact ⟨f, rfl⟩
theorem sim_has {m : Pm} {x f nx : Int} {i : Int} {n : Nat} {r : Rz Unit} {k : Pg → Pg} (hk : Sim r (setAt nx (k (m.gr x f)))) : Sim (if outsideB i n = true then .ov 6 m else r) (setAt nx (whenG (hasG i n (m.gr x f)) k)) := by
  unfold hasG
  cases outsideB i n with
  | true =>
    rw [if_pos rfl]
    exact (stop_gr m x f 6).when k
  | false =>
    rw [if_neg (by simp), show (bif false then stopG 6 (m.gr x f) else m.gr x f) = m.gr x f from rfl, whenF rfl]
    exact hk
theorem enter_same (a b : Int) (n : Nat) : ((((decide (a < 0) || decide (b < 0)) || decide (2048 < a)) || decide (IntKind.i64.wrap (2048 - a) < b)) || decide ((n : Int) < a)) = (((((decide (a < 0) || decide (b < 0)) || decide (2048 < a)) || decide (2048 < b)) || decide (2048 < IntKind.i64.wrap (a + b))) || decide ((n : Int) < a)) := by
  by_cases h1 : a < 0
  · simp [h1]
  · by_cases h2 : b < 0
    · simp [h2]
    · by_cases h3 : 2048 < a
      · simp [h3]
      · rw [wrap_in (show -9223372036854775808 ≤ 2048 - a ∧ 2048 - a ≤ 9223372036854775807 by omega)]
        by_cases h4 : 2048 < b
        · have : 2048 - a < b := by omega
          simp [h4, this]
        · rw [wrap_in (show -9223372036854775808 ≤ a + b ∧ a + b ≤ 9223372036854775807 by omega)]
          have : decide (2048 - a < b) = decide (2048 < a + b) := by
            apply decide_eq_decide.2; omega
          simp [h4, this]
theorem sim_enter {m : Pm} {x f nx : Int} (a b : Int) (ha : nx = m.at_) : Sim (enterM a b m) (setAt nx (enterG a b (m.gr x f))) := by
  subst ha
  unfold enterM enterG
  rw [enter_same a b m.stack.length]
  split
  · rw [if_pos (by assumption)]
    exact stop_gr m x f 6
  · rw [if_neg (by assumption)]
    exact ⟨f, rfl⟩
theorem sim_call {m : Pm} {x f nx to : Int} (h : m.ticks ≤ m.limit) (ha : nx = m.at_) : Sim (callM to m) (setAt to (callG nx (m.gr x f))) := by
  subst ha
  unfold callM callG tickM tickG
  by_cases hc : m.ticks = m.limit
  · rw [if_pos hc, if_pos (show (m.gr x f).m.limit ≤ (m.gr x f).m.ticks by show m.limit ≤ m.ticks; omega)]
    have hd := stop_gr m x f 3
    have he : incG (stopG 3 (m.gr x f)) = stopG 3 (m.gr x f) := by
      unfold incG
      rw [hd.1]; rfl
    rw [he]
    show Done 3 m (pushFr m.at_ (if 24 < (stopG 3 (m.gr x f)).m.frames.length then stopG 4 (stopG 3 (m.gr x f)) else stopG 3 (m.gr x f)))
    rw [stopG_over 4 hd.1, ite_self]
    exact hd
  · rw [if_neg hc, if_neg (show ¬ (m.gr x f).m.limit ≤ (m.gr x f).m.ticks by show ¬ m.limit ≤ m.ticks; omega)]
    show Sim (if 24 < m.frames.length then _ else _) (setAt to (pushFr m.at_ (if 24 < m.frames.length then _ else _)))
    by_cases hf : 24 < m.frames.length
    · rw [if_pos hf, if_pos hf]
      exact stop_gr { m with ticks := IntKind.i64.wrap (m.ticks + 1) } x f 4
    · rw [if_neg hf, if_neg hf]
      exact ⟨f, rfl⟩
theorem math_of {op : Int} (a b : Int) (h : foldsB op = true) : mmath op a b = rmath op a b ∧ (mmath op a b).2 = true := by
  simp [foldsB] at h
  rcases h with (((h | h) | h) | h) | h <;> subst h <;> simp [mmath, rmath]
theorem math_not {op : Int} (a b : Int) (h : foldsB op = false) : (mmath op a b).2 = false := by
  simp [foldsB] at h
  simp [mmath, h]
theorem sim_math {m : Pm} {x f nx op : Int} (hl : m.stack.length ≤ 2048) (ha : nx = m.at_) : Sim (mathM op m) (mathG op nx (if within op 9 15 = true then m.gr x f else stopG 6 (m.gr x f))) := by
  unfold mathM
  by_cases hw : within op 9 15 = true
  · have hn : (decide (op < 9) || decide (15 < op)) = false := by simp [within] at hw ⊢; omega
    rw [if_pos hw, hn, if_neg (by simp)]
    refine sim_top (K := fun p => if (popG p.2).2.over = true then (popG p.2).2 else setAt nx (pushG (rmath op (popG p.2).1 p.1).1 (if (rmath op (popG p.2).1 p.1).2 = true then (popG p.2).2 else stopG 1 (popG p.2).2))) (fun b r hb => ?_) (fun g hg => ?_)
    · refine sim_top (K := fun p => if p.2.over = true then p.2 else setAt nx (pushG (rmath op p.1 b).1 (if (rmath op p.1 b).2 = true then p.2 else stopG 1 p.2))) (fun a r' hb' => ?_) (fun g hg => ?_)
      · have hb' : r = a :: r' := hb'
        rw [hb, hb'] at hl
        simp at hl
        have hl2 : r'.length ≤ 2048 := by omega
        dsimp only
        rw [if_neg (show ¬ (Pm.gr { m with stack := r' } x f).over = true by show ¬ false = true; simp)]
        cases hf : foldsB op with
        | true =>
          obtain ⟨e1, e2⟩ := math_of a b hf
          rw [if_pos e2, ← e1, if_pos e2]
          exact sim_push _ hl2 ha
        | false =>
          rw [if_neg (by rw [math_not a b hf]; simp)]
          have h9 : 9 ≤ op ∧ op ≤ 15 := by simp [within] at hw; omega
          have hop : op = 12 ∨ op = 13 := by simp [foldsB] at hf; omega
          by_cases h0 : b = 0
          · rw [if_pos h0]
            have hr : (rmath op a b).2 = false := by rcases hop with rfl | rfl <;> simp [rmath, h0]
            rw [hr, if_neg (by simp)]
            exact ((stop_gr _ x f 1).push _).at nx
          · rw [if_neg h0]
            have hr : rmath op a b = (if op = 13 then a.tmod b else IntKind.i64.wrap (a.tdiv b), true) := by rcases hop with rfl | rfl <;> simp [rmath, h0]
            rw [hr, if_pos rfl]
            exact sim_push _ hl2 ha
      · dsimp only
        rw [if_pos hg.1]
        exact hg
    · dsimp only
      rw [if_pos hg.pop.1]
      exact hg.pop
  · have hn : (decide (op < 9) || decide (15 < op)) = true := by simp [within] at hw ⊢; omega
    rw [if_neg hw, if_pos hn]
    exact (stop_gr m x f 6).math op nx
theorem sim_out {m : Pm} {x f nx : Int} (n : Int) (hl : m.out.length ≤ 200) (ha : nx = m.at_) : Sim (if m.out.length = 200 then .ov 5 m else .ok () { m with out := m.out ++ [n] }) (setAt nx (outG n (m.gr x f))) := by
  subst ha
  unfold outG
  by_cases h : m.out.length = 200
  · rw [if_pos h, if_pos (show (m.gr x f).over = false ∧ 200 ≤ (m.gr x f).m.out.length from ⟨rfl, by show 200 ≤ m.out.length; omega⟩)]
    have hd := stop_gr m x f 5
    unfold putOut
    rw [hd.1]
    exact hd
  · rw [if_neg h, if_neg (show ¬ ((m.gr x f).over = false ∧ 200 ≤ (m.gr x f).m.out.length) from fun hh => by have : 200 ≤ m.out.length := hh.2; omega), putOut_not rfl]
    exact ⟨f, rfl⟩
theorem sim_read {m : Pm} {x f nx : Int} (hl : m.stack.length ≤ 2048) (ha : nx = m.at_) : Sim (pushM (readM m).1 (readM m).2) (setAt nx (tailG (pushG ((m.gr x f).m.inp.head?.getD 0) (m.gr x f)))) := by
  have e1 : (readM m).2 = { m with inp := m.inp.tail } := by obtain ⟨_, _, _, _, _, inp, _, _, _⟩ := m; cases inp <;> rfl
  have e2 : (readM m).1 = (m.gr x f).m.inp.head?.getD 0 := by
    show _ = m.inp.head?.getD 0
    unfold readM; cases hi : m.inp <;> simp [hi]
  rw [e1, e2]
  generalize (m.gr x f).m.inp.head?.getD 0 = n
  subst ha
  unfold pushM pushG
  by_cases h : m.stack.length = 2048
  · rw [if_pos h, if_pos (show 2048 ≤ (m.gr x f).m.stack.length by show 2048 ≤ m.stack.length; omega), putG_over (stop_gr m x f 6).1]
    exact stop_gr m x f 6
  · rw [if_neg h, if_neg (show ¬ 2048 ≤ (m.gr x f).m.stack.length by show ¬ 2048 ≤ m.stack.length; omega), putG_not rfl]
    exact ⟨f, rfl⟩
theorem sim_ite {c : Prop} [Decidable c] {a b : Rz Unit} {g h : Pg} (ht : Sim a g) (hf : Sim b h) : Sim (if c then a else b) (if c then g else h) := by
  split
  · exact ht
  · exact hf
theorem sim_step {i : Ins} {m : Pm} {x f nx : Int} (hi : m.Inv) (ha : nx = m.at_) : Sim (stepB i m) (doA i nx (m.gr x f)) := by
  have hst := hi.stk
  have hsub : ∀ {a : Int} {r : List Int}, m.stack = a :: r → r.length ≤ 2048 := fun h => by rw [h] at hst; simp at hst; omega
  unfold stepB doA
  refine sim_ite (sim_push _ hst ha) ?_
  refine sim_ite (sim_has (k := fun h => pushG ((locG (m.gr x f))[i.a.toNat]?.getD 0) h) (sim_push _ hst ha)) ?_
  refine sim_ite (sim_top (K := fun p => setAt nx (whenG (hasG i.a (locG p.2).length p.2) fun h => putLoc i.a.toNat p.1 h)) (fun a r hr => sim_has (k := fun h => putLoc i.a.toNat a h) ⟨f, by subst ha; rfl⟩) (fun g hg => (hg.has _ _).when _)) ?_
  refine sim_ite (sim_has (k := fun h => pushG ((m.gr x f).m.data[i.a.toNat]?.getD 0) h) (sim_push _ hst ha)) ?_
  refine sim_ite (sim_top (K := fun p => setAt nx (whenG (hasG i.a p.2.m.data.length p.2) fun h => putDat i.a.toNat p.1 h)) (fun a r hr => sim_has (k := fun h => putDat i.a.toNat a h) ⟨f, by subst ha; rfl⟩) (fun g hg => (hg.has _ _).when _)) ?_
  refine sim_ite (sim_top (K := fun p => setAt nx (pushG (IntKind.i64.wrap (i.a + p.1)) (if (decide (p.1 < 0) || decide (i.b ≤ p.1)) = true then stopG 2 p.2 else p.2))) (fun a r hr => ?_) (fun g hg => Done.push (Done.ite (hg.stop _) hg) _)) ?_
  · dsimp only
    by_cases hc : (decide (a < 0) || decide (i.b ≤ a)) = true
    · rw [if_pos hc, if_pos hc]
      exact (stop_gr _ x f 2).push _
    · rw [if_neg hc, if_neg hc]
      exact sim_push _ (hsub hr) ha
  refine sim_ite (sim_top (K := fun p => setAt nx (whenG (hasG p.1 p.2.m.data.length p.2) fun h => pushG (p.2.m.data[p.1.toNat]?.getD 0) h)) (fun a r hr => sim_has (k := fun h => pushG (m.data[a.toNat]?.getD 0) h) (sim_push _ (hsub hr) ha)) (fun g hg => (hg.has _ _).when _)) ?_
  refine sim_ite (sim_top (K := fun p => setAt nx (whenG (hasG (popG p.2).1 (popG p.2).2.m.data.length (popG p.2).2) fun h => putDat (popG p.2).1.toNat p.1 h)) (fun a r hr => sim_top (K := fun p => setAt nx (whenG (hasG p.1 p.2.m.data.length p.2) fun h => putDat p.1.toNat a h)) (fun b r' hr' => sim_has (k := fun h => putDat b.toNat a h) ⟨f, by subst ha; rfl⟩) (fun g hg => (hg.has _ _).when _)) (fun g hg => (hg.pop.has _ _).when _)) ?_
  refine sim_ite (sim_top (K := fun p => setAt nx (pushG (bitI (p.1 == 0)) p.2)) (fun a r hr => sim_push _ (hsub hr) ha) (fun g hg => hg.push _)) ?_
  refine sim_ite (sim_top (K := fun p => setAt nx (pushG (bitI (p.1 != 0)) p.2)) (fun a r hr => sim_push _ (hsub hr) ha) (fun g hg => hg.push _)) ?_
  refine sim_ite (sim_math hst ha) ?_
  refine sim_ite ⟨f, rfl⟩ ?_
  refine sim_ite (sim_top (K := fun p => setAt (if (p.1 == 0) = true then i.a else nx) p.2) (fun a r hr => ?_) (fun g hg => hg)) ?_
  · dsimp only
    by_cases hc : (a == 0) = true
    · rw [if_pos hc, if_pos hc]; exact ⟨f, rfl⟩
    · rw [if_neg hc, if_neg hc]; exact ⟨f, by subst ha; rfl⟩
  refine sim_ite (sim_call hi.tkl ha) ?_
  refine sim_ite (sim_enter _ _ ha) ?_
  refine sim_ite ?_ ?_
  · unfold retM
    refine sim_ite (stop_gr m x f 6) ?_
    show Sim _ (match m.frames with | [] => _ | f' :: r => _)
    cases hf : m.frames with
    | nil => have := hi.frs; rw [hf] at this; simp at this
    | cons f' r => exact ⟨f, rfl⟩
  refine sim_ite (sim_tick hi.tkl ha) ?_
  refine sim_ite (sim_top (K := fun p => setAt nx p.2) (fun a r hr => ⟨f, by subst ha; rfl⟩) (fun g hg => hg)) ?_
  refine sim_ite (sim_read hst ha) ?_
  refine sim_ite (sim_top (K := fun p => setAt nx (outG p.1 p.2)) (fun a r hr => sim_out a hi.out ha) (fun g hg => hg.out _)) ?_
  refine sim_ite (sim_stop 0) ?_
  exact ⟨f, by subst ha; rfl⟩
/-! ### What the machine keeps -/
structure Pm.InvO (p : List Int) (L : Int) (m : Pm) : Prop where
  inv : m.Inv
  pre : p <+: m.out
  lm : m.limit = L
theorem Pm.InvO.wst {p : List Int} {L : Int} {m : Pm} (h : m.InvO p L) {r : List Int} (hr : r.length ≤ 2048) : Pm.InvO p L { m with stack := r } := ⟨⟨hr, h.inv.tk0, h.inv.tkl, h.inv.lim, h.inv.out, h.inv.frs⟩, h.pre, h.lm⟩
theorem Pm.InvO.at {p : List Int} {L : Int} {m : Pm} (h : m.InvO p L) (a : Int) : Pm.InvO p L { m with at_ := a } := ⟨⟨h.inv.stk, h.inv.tk0, h.inv.tkl, h.inv.lim, h.inv.out, h.inv.frs⟩, h.pre, h.lm⟩
theorem Pm.InvO.tk {p : List Int} {L : Int} {m : Pm} (h : m.InvO p L) : Pm.InvO p L m.tk := ⟨⟨h.inv.stk, h.inv.tk0, h.inv.tkl, h.inv.lim, h.inv.out, h.inv.frs⟩, h.pre, h.lm⟩
theorem Pm.InvO.dat {p : List Int} {L : Int} {m : Pm} (h : m.InvO p L) (a : List Int) : Pm.InvO p L { m with data := a } := ⟨⟨h.inv.stk, h.inv.tk0, h.inv.tkl, h.inv.lim, h.inv.out, h.inv.frs⟩, h.pre, h.lm⟩
theorem Pm.InvO.inp {p : List Int} {L : Int} {m : Pm} (h : m.InvO p L) (a : List Int) : Pm.InvO p L { m with inp := a } := ⟨⟨h.inv.stk, h.inv.tk0, h.inv.tkl, h.inv.lim, h.inv.out, h.inv.frs⟩, h.pre, h.lm⟩
theorem Pm.InvO.frs {p : List Int} {L : Int} {m : Pm} (h : m.InvO p L) {a : List (List Int × Int)} (ha : 1 ≤ a.length) : Pm.InvO p L { m with frames := a } := ⟨⟨h.inv.stk, h.inv.tk0, h.inv.tkl, h.inv.lim, h.inv.out, ha⟩, h.pre, h.lm⟩
theorem inv_top {p : List Int} {L : Int} {m : Pm} (h : m.InvO p L) {k : Int → Pm → Rz Unit} (hk : ∀ a m', m'.InvO p L → ((k a m').st).InvO p L) : ((topM m).bind k).st.InvO p L := by
  unfold topM
  cases hs : m.stack with
  | nil => exact h
  | cons a r => exact hk a _ (h.wst (by have := h.inv.stk; rw [hs] at this; simp at this; omega))
theorem inv_ite {p : List Int} {L : Int} {c : Prop} [Decidable c] {a b : Rz Unit} (ha : a.st.InvO p L) (hb : b.st.InvO p L) : (if c then a else b).st.InvO p L := by
  split
  · exact ha
  · exact hb
theorem inv_push {p : List Int} {L : Int} {m : Pm} (h : m.InvO p L) (n : Int) : (pushM n m).st.InvO p L := by
  unfold pushM
  split
  · exact h
  · exact h.wst (by have := h.inv.stk; simp; omega)
theorem inv_tick {p : List Int} {L : Int} {m : Pm} (h : m.InvO p L) : (tickM m).st.InvO p L := by
  have h1 := h.inv.tk0
  have h2 := h.inv.tkl
  have h3 := h.inv.lim
  unfold tickM
  split
  · exact h
  · rw [wrap_in (by omega)]
    exact ⟨⟨h.inv.stk, by show 0 ≤ m.ticks + 1; omega, by show m.ticks + 1 ≤ m.limit; omega, h3, h.inv.out, h.inv.frs⟩, h.pre, h.lm⟩
theorem inv_math {p : List Int} {L : Int} {m : Pm} (h : m.InvO p L) (op : Int) : (mathM op m).st.InvO p L := by
  unfold mathM
  refine inv_ite h (inv_top h fun b m1 h1 => inv_top h1 fun a m2 h2 => inv_ite (inv_push h2 _) (inv_ite h2 (inv_push h2 _)))
theorem setLoc_inv {p : List Int} {L : Int} {m : Pm} (h : m.InvO p L) (k : Nat) (n : Int) : (setLoc m k n).InvO p L := by
  unfold setLoc
  refine h.frs ?_
  have := h.inv.frs
  cases hf : m.frames with
  | nil => rw [hf] at this; simp at this
  | cons f r => simp
theorem inv_enter {p : List Int} {L : Int} {m : Pm} (h : m.InvO p L) (a b : Int) : (enterM a b m).st.InvO p L := by
  unfold enterM
  refine inv_ite h ?_
  have h1 := h.inv.stk
  have h2 := h.inv.frs
  refine (h.wst (r := m.stack.drop a.toNat) (by simp; omega)).frs ?_
  cases hf : m.frames with
  | nil => rw [hf] at h2; simp at h2
  | cons f r => simp
theorem inv_call {p : List Int} {L : Int} {m : Pm} (h : m.InvO p L) (to : Int) : (callM to m).st.InvO p L := by
  have ht := inv_tick h
  unfold callM
  cases hr : tickM m with
  | ov e m' => rw [hr] at ht; exact ht
  | ok u m' =>
    rw [hr] at ht
    have ht : m'.InvO p L := ht
    exact inv_ite ht ((ht.frs (a := ([], m'.at_) :: m'.frames) (by simp)).at to)
theorem inv_ret {p : List Int} {L : Int} {m : Pm} (h : m.InvO p L) : (retM m).st.InvO p L := by
  have h2 := h.inv.frs
  unfold retM
  split
  · exact h
  · rename_i hne
    cases hf : m.frames with
    | nil => exact h
    | cons f r =>
      rw [hf] at hne h2
      simp at hne h2
      exact (h.frs (a := r) (by cases r with | nil => exact absurd rfl hne | cons _ _ => simp)).at f.2
theorem inv_step {p : List Int} {L : Int} {i : Ins} {m : Pm} (h : m.InvO p L) : (stepM i m).st.InvO p L := by
  have h : m.at1.InvO p L := h.at _
  unfold stepM
  generalize m.at1 = m at h
  unfold stepB
  refine inv_ite (inv_push h _) ?_
  refine inv_ite (inv_ite h (inv_push h _)) ?_
  refine inv_ite (inv_top h fun n m1 h1 => inv_ite h1 (setLoc_inv h1 _ _)) ?_
  refine inv_ite (inv_ite h (inv_push h _)) ?_
  refine inv_ite (inv_top h fun n m1 h1 => inv_ite h1 (h1.dat _)) ?_
  refine inv_ite (inv_top h fun n m1 h1 => inv_ite h1 (inv_push h1 _)) ?_
  refine inv_ite (inv_top h fun n m1 h1 => inv_ite h1 (inv_push h1 _)) ?_
  refine inv_ite (inv_top h fun n m1 h1 => inv_top h1 fun k m2 h2 => inv_ite h2 (h2.dat _)) ?_
  refine inv_ite (inv_top h fun n m1 h1 => inv_push h1 _) ?_
  refine inv_ite (inv_top h fun n m1 h1 => inv_push h1 _) ?_
  refine inv_ite (inv_math h _) ?_
  refine inv_ite (h.at _) ?_
  refine inv_ite (inv_top h fun n m1 h1 => inv_ite (h1.at _) h1) ?_
  refine inv_ite (inv_call h _) ?_
  refine inv_ite (inv_enter h _ _) ?_
  refine inv_ite (inv_ret h) ?_
  refine inv_ite (inv_tick h) ?_
  refine inv_ite (inv_top h fun n m1 h1 => h1) ?_
  refine inv_ite (inv_push (by unfold readM; split; exact h; exact h.inp _) _) ?_
  refine inv_ite (inv_top h fun n m1 h1 => ?_) ?_
  · split
    · exact h1
    · rename_i hne
      have := h1.inv.out
      exact ⟨⟨h1.inv.stk, h1.inv.tk0, h1.inv.tkl, h1.inv.lim, by show (m1.out ++ [n]).length ≤ 200; simp; omega, h1.inv.frs⟩, h1.pre.trans (List.prefix_append _ _), h1.lm⟩
  refine inv_ite h h
theorem inv_iter {p : List Int} {L : Int} {code : List Ins} {lim : Int} {m : Pm} (h : m.InvO p L) : (iterM code lim m).st.InvO p L := by
  unfold iterM
  exact inv_ite h (inv_ite h.tk (inv_step h.tk))
theorem inv_run {p : List Int} {L : Int} {code : List Ins} {lim : Int} (k : Nat) : ∀ (m : Pm), m.InvO p L → (runK code lim k m).2.InvO p L := by
  induction k with
  | zero => exact fun m h => h
  | succ k ih =>
    intro m h
    have hi := inv_iter (code := code) (lim := lim) h
    unfold runK
    cases hr : iterM code lim m with
    | ov e m' => rw [hr] at hi; exact hi
    | ok u m' => rw [hr] at hi; exact ih m' hi
theorem iter_le {code : List Ins} {lim : Int} {m : Pm} (hl : lim ≤ 134217728) (h0 : 0 ≤ m.steps) (h1 : m.steps ≤ lim) : 0 ≤ (iterM code lim m).st.steps ∧ (iterM code lim m).st.steps ≤ lim := by
  unfold iterM
  split
  · exact ⟨h0, h1⟩
  · rename_i hne
    have hne : m.steps ≠ lim := by simpa using hne
    have ht : m.tk.steps = m.steps + 1 := by
      show IntKind.i64.wrap (m.steps + 1) = _
      rw [wrap_in (by omega)]
    split
    · show 0 ≤ m.tk.steps ∧ m.tk.steps ≤ lim
      omega
    · have hk := kp_step (code[m.at_.toNat]?.getD ⟨0, 0, 0⟩) m.tk
      have e : (stepM (code[m.at_.toNat]?.getD ⟨0, 0, 0⟩) m.tk).st.steps = m.tk.steps := congrArg Prod.snd hk
      rw [e]
      omega
theorem run_le {code : List Ins} {lim : Int} (hl : lim ≤ 134217728) (k : Nat) : ∀ (m : Pm), 0 ≤ m.steps → m.steps ≤ lim → (runK code lim k m).2.steps ≤ lim := by
  induction k with
  | zero => exact fun m _ h => h
  | succ k ih =>
    intro m h0 h1
    have hi := iter_le (code := code) hl h0 h1
    unfold runK
    cases hr : iterM code lim m with
    | ov e m' => rw [hr] at hi; exact hi.2
    | ok u m' => rw [hr] at hi; exact ih m' hi.1 hi.2
theorem run_more {code : List Ins} {lim lim' L : Int} (hl : lim' ≤ 134217728) (hll : lim ≤ lim') (k : Nat) : ∀ (m : Pm) (k' : Nat), m.Inv → 0 ≤ m.steps → m.steps ≤ lim → (k : Int) = lim - m.steps + 1 → (k' : Int) = lim' - m.steps + 1 →
    runK code lim' k' m = runK code lim k m ∨ ((runK code lim k m).1 = 7 ∧ (runK code lim k m).2.out <+: (runK code lim' k' m).2.out) := by
  induction k with
  | zero => intro m k' hm h0 h1 hk hk'; omega
  | succ k ih =>
    intro m k' hm h0 h1 hk hk'
    have hmo : m.InvO m.out m.limit := ⟨hm, List.prefix_refl _, rfl⟩
    by_cases hs : m.steps = lim
    · right
      have e : runK code lim (k + 1) m = (7, m) := by unfold runK iterM; rw [if_pos (by simpa using hs)]
      rw [e]
      exact ⟨rfl, (inv_run k' m hmo).pre⟩
    · obtain ⟨j, rfl⟩ : ∃ j, k' = j + 1 := ⟨k' - 1, by omega⟩
      have hi : iterM code lim' m = iterM code lim m := by
        unfold iterM
        rw [if_neg (show ¬ (m.steps == lim') = true by simpa using (show m.steps ≠ lim' by omega)), if_neg (show ¬ (m.steps == lim) = true by simpa using hs)]
      have hv := inv_iter (code := code) (lim := lim) hmo
      rw [runK, runK, hi]
      cases hr : iterM code lim m with
      | ov e m' => left; rfl
      | ok u m' =>
        rw [hr] at hv
        obtain ⟨e1, e2⟩ := iter_steps (by omega) h0 h1 hr
        exact ih m' j hv.inv (by omega) (by omega) (by omega) (by omega)
theorem sim_run {code : List Ins} {lim : Int} (hl : lim ≤ 134217728) (k : Nat) : ∀ (m : Pm) (n : Nat) (f : Int), m.Inv → m.steps = (n : Int) → m.steps ≤ lim → (k : Int) = lim - m.steps + 1 →
    Done (runK code lim k m).1 (runK code lim k m).2 (runG code lim k n (m.gr m.at_ f)).1 ∧ ((runG code lim k n (m.gr m.at_ f)).2 : Int) = (runK code lim k m).2.steps := by
  induction k with
  | zero => intro m n f hm h0 h1 hk; omega
  | succ k ih =>
    intro m n f hm h0 h1 hk
    have hmo : m.InvO m.out m.limit := ⟨hm, List.prefix_refl _, rfl⟩
    rw [runG, if_neg (show ¬ (m.gr m.at_ f).over = true by show ¬ false = true; simp)]
    by_cases hs : m.steps = lim
    · have e : runK code lim (k + 1) m = (7, m) := by unfold runK iterM; rw [if_pos (by simpa using hs)]
      rw [e, if_pos (by simp; omega)]
      exact ⟨stop_gr m m.at_ f 7, h0.symm⟩
    · rw [if_neg (by simp; omega)]
      have ht : m.tk.steps = m.steps + 1 := by
        show IntKind.i64.wrap (m.steps + 1) = _
        rw [wrap_in (by omega)]
      by_cases ho : outsideB m.at_ code.length = true
      · have e : runK code lim (k + 1) m = (6, m.tk) := by unfold runK iterM; rw [if_neg (by simpa using hs), if_pos ho]
        rw [e, if_pos (show outsideB (m.gr m.at_ f).m.at_ code.length = true from ho)]
        exact ⟨stop_gr m.tk m.at_ f 6, by show ((n + 1 : Nat) : Int) = m.tk.steps; omega⟩
      · rw [if_neg (show ¬ outsideB (m.gr m.at_ f).m.at_ code.length = true from ho)]
        have hv : m.tk.at1.InvO m.out m.limit := hmo.tk.at _
        have hsim : Sim (stepM (code[m.at_.toNat]?.getD ⟨0, 0, 0⟩) m.tk) (doG (code[(m.gr m.at_ f).m.at_.toNat]?.getD ⟨0, 0, 0⟩) (m.gr m.at_ f)) := sim_step (m := m.tk.at1) (x := m.at_) (f := f) (nx := m.tk.at1.at_) hv.inv rfl
        have hi : iterM code lim m = stepM (code[m.at_.toNat]?.getD ⟨0, 0, 0⟩) m.tk := by
          unfold iterM; rw [if_neg (by simpa using hs), if_neg ho]
        have hi2 := inv_iter (code := code) (lim := lim) hmo
        have hkp := kp_step (code[m.at_.toNat]?.getD ⟨0, 0, 0⟩) m.tk
        rw [runK]
        generalize doG (code[(m.gr m.at_ f).m.at_.toNat]?.getD ⟨0, 0, 0⟩) (m.gr m.at_ f) = g at hsim
        cases hr : iterM code lim m with
        | ov e m' =>
          rw [← hi, hr] at hsim
          rw [← hi, hr] at hkp
          have hsim : Done e m' g := hsim
          have hst : m'.steps = m.tk.steps := congrArg Prod.snd hkp
          have hg : runG code lim k (n + 1) g = (g, n + 1) := by
            cases k with
            | zero => rfl
            | succ k => rw [runG, if_pos hsim.1]
          rw [hg]
          exact ⟨hsim, by show ((n + 1 : Nat) : Int) = m'.steps; omega⟩
        | ok u m' =>
          rw [← hi, hr] at hsim
          rw [hr] at hi2
          obtain ⟨f', hg⟩ := hsim
          obtain ⟨e1, e2⟩ := iter_steps (by omega) (by omega) h1 hr
          rw [hg]
          exact ih m' (n + 1) f' hi2.inv (by omega) (by omega) (by omega)
theorem machE_zero {code : List Ins} {data : Int} {inp : List Int} {ticks steps : Int} (h : machE code data inp ticks steps = 0) : checkImg code data = 0 ∧ inp.length ≤ 64 ∧ (0 ≤ ticks ∧ ticks ≤ 2000) ∧ (0 ≤ steps ∧ steps ≤ 134217728) := by
  unfold machE at h
  by_cases h1 : checkImg code data = 0
  · rw [if_pos h1] at h
    by_cases h2 : 64 < inp.length
    · rw [if_pos h2] at h; cases h
    · rw [if_neg h2] at h
      by_cases h3 : (((decide (ticks < 0) || decide (2000 < ticks)) || decide (steps < 0)) || decide (134217728 < steps)) = true
      · rw [if_pos h3] at h; cases h
      · simp at h3
        exact ⟨h1, by omega, by omega, by omega⟩
  · rw [if_neg h1] at h; exact absurd h h1
theorem start_inv {ticks : Int} (h : 0 ≤ ticks ∧ ticks ≤ 2000) (inp : List Int) (data : Int) : (startM ticks inp data).Inv := ⟨by simp [startM], by simp [startM], by simp [startM]; omega, by simp [startM]; omega, by simp [startM], by simp [startM]⟩
theorem mach_gear {code : List Ins} {data : Int} {inp : List Int} {ticks steps : Int} (h : machE code data inp ticks steps = 0) : (gearR code data inp ticks steps).1 = (machR code data inp ticks steps).1 ∧ ((gearR code data inp ticks steps).2 : Int) = (machR code data inp ticks steps).2 := by
  obtain ⟨_, _, ht, hs⟩ := machE_zero h
  obtain ⟨h1, h2⟩ := sim_run (code := code) (lim := steps) hs.2 (steps.toNat + 1) (startM ticks inp data) 0 0 (start_inv ht inp data) rfl (by show (0 : Int) ≤ steps; omega) (by show _ = steps - 0 + 1; omega)
  obtain ⟨_, a1, a2, a3, a4⟩ := h1
  unfold gearR machR
  rw [if_pos h]
  have hg : startG ticks inp data = (startM ticks inp data).gr (startM ticks inp data).at_ 0 := rfl
  rw [hg]
  dsimp only
  rw [a1, a2, a3, a4]
  exact ⟨rfl, h2⟩
theorem mach_more {code : List Ins} {data : Int} {inp : List Int} {ticks n c : Int} (h : machE code data inp ticks n = 0) (hc : 0 ≤ c) (hn : n + c ≤ 134217728) :
    machE code data inp ticks (n + c) = 0 ∧ (machR code data inp ticks n).2 ≤ n ∧ (machR code data inp ticks n).1.ticks ≤ ticks ∧ (machR code data inp ticks n).1.out <+: (machR code data inp ticks (n + c)).1.out ∧ ((machR code data inp ticks n).1.fin = 7 ∨ machR code data inp ticks (n + c) = machR code data inp ticks n) := by
  obtain ⟨h1, h2, ht, hs⟩ := machE_zero h
  have h' : machE code data inp ticks (n + c) = 0 := by
    unfold machE
    rw [if_pos h1, if_neg (by omega), if_neg (by simp; omega)]
  have hm := run_more (code := code) (lim := n) (lim' := n + c) (L := 0) hn (by omega) (n.toNat + 1) (startM ticks inp data) ((n + c).toNat + 1) (start_inv ht inp data) (by show (0 : Int) ≤ 0; omega) (by show (0 : Int) ≤ n; omega) (by show _ = n - 0 + 1; omega) (by show _ = n + c - 0 + 1; omega)
  have hi := inv_run (code := code) (lim := n) (n.toNat + 1) (startM ticks inp data) (p := []) (L := ticks) ⟨start_inv ht inp data, List.nil_prefix, rfl⟩
  have hl := run_le (code := code) hs.2 (n.toNat + 1) (startM ticks inp data) (by show (0 : Int) ≤ 0; omega) (by show (0 : Int) ≤ n; omega)
  have e1 : machR code data inp ticks n = (⟨(runK code n (n.toNat + 1) (startM ticks inp data)).1, (runK code n (n.toNat + 1) (startM ticks inp data)).2.out, (runK code n (n.toNat + 1) (startM ticks inp data)).2.data, (runK code n (n.toNat + 1) (startM ticks inp data)).2.ticks⟩, (runK code n (n.toNat + 1) (startM ticks inp data)).2.steps) := by unfold machR; rw [if_pos h]
  have e2 : machR code data inp ticks (n + c) = (⟨(runK code (n + c) ((n + c).toNat + 1) (startM ticks inp data)).1, (runK code (n + c) ((n + c).toNat + 1) (startM ticks inp data)).2.out, (runK code (n + c) ((n + c).toNat + 1) (startM ticks inp data)).2.data, (runK code (n + c) ((n + c).toNat + 1) (startM ticks inp data)).2.ticks⟩, (runK code (n + c) ((n + c).toNat + 1) (startM ticks inp data)).2.steps) := by unfold machR; rw [if_pos h']
  rw [e1, e2]
  refine ⟨h', hl, ?_, ?_, ?_⟩
  · have := hi.inv.tkl; rw [hi.lm] at this; exact this
  · rcases hm with hm | hm
    · rw [hm]; exact List.prefix_refl _
    · exact hm.2
  · rcases hm with hm | hm
    · right; rw [hm]
    · exact Or.inl hm.1
theorem mach_err {code : List Ins} {data : Int} {inp : List Int} {ticks steps : Int} (h : ¬ machE code data inp ticks steps = 0) : machR code data inp ticks steps = (⟨0, [], [], 0⟩, 0) := by unfold machR; rw [if_neg h]
/-- The reference's error, as the law puts it together. -/
def refE (code : List Ins) (data : Int) (inp : List Int) (ticks steps : Int) : Int :=
  if (checkImg code data == 0) = true then if (runE inp ticks == 0) = true then if steps < 0 ∨ 134217728 < steps then 3 else 0 else runE inp ticks else checkImg code data
theorem refE_eq (code : List Ins) (data : Int) (inp : List Int) (ticks steps : Int) : refE code data inp ticks steps = machE code data inp ticks steps := by
  unfold refE machE
  by_cases h1 : checkImg code data = 0
  · rw [if_pos (by simpa using h1), if_pos h1]
    unfold runE
    by_cases h2 : 64 < inp.length
    · rw [if_pos h2, if_pos h2]; rfl
    · rw [if_neg h2, if_neg h2]
      by_cases h3 : within ticks 0 2000 = true
      · rw [if_pos h3]
        have h3 : 0 ≤ ticks ∧ ticks ≤ 2000 := by simpa [within] using h3
        by_cases h4 : steps < 0 ∨ 134217728 < steps
        · rw [if_pos (by rfl), if_pos h4, if_pos (by simp; omega)]
        · rw [if_pos (by rfl), if_neg h4, if_neg (by simp; omega)]
      · rw [if_neg h3]
        have h3 : ¬ (0 ≤ ticks ∧ ticks ≤ 2000) := fun hh => h3 (by simpa [within] using hh)
        rw [if_neg (by decide), if_pos (by simp; omega)]
  · rw [if_neg (by simpa using h1), if_neg h1]

theorem WL.wk {P : Program} {ops : Array Oper} {Q : Exit → Act → World → Prop} {n : Nat} {ds : List Deferred} {l : List (Nat × Value)} {W W' : World → Prop} {rest : List Oper} (hW : ∀ w, W w → W' w) (h : WL P ops Q n ds l W' rest) : WL P ops Q n ds l W rest := fun a w ha hw => h a w ha (hW w hw)
theorem yl_neg {P : Program} {l : List (Nat × Value)} {W : World → Prop} {d : Option Tmp} {ty : TypeId} {pos : String} {af : Array Edge} {g : Option (Nat × Bool)} {t : TypeId} {x : Operand} {a : Int} (hx : opv l x = some (.int .i64 a)) : Yl P l W ⟨d, .unOp .neg t x, ty, pos, af, g⟩ (.int .i64 (IntKind.i64.wrap (-a))) :=
  fun ρ w hρ _ => by simp [execOp, hρ x _ hx, Op.unary, Op.intArith]
def chooseN (n m : Int) : Int := (if n < 0 then IntKind.i64.wrap (-(IntKind.i64.wrap (n + 1))) else n).tmod m
theorem choose_in {n : Int} (h : -9223372036854775808 ≤ n) (h2 : n ≤ 9223372036854775807) : 0 ≤ chooseN n 16384 ∧ chooseN n 16384 < 16384 := by
  unfold chooseN
  by_cases hn : n < 0
  · rw [if_pos hn, wrap_in (n := n + 1) (by omega), wrap_in (by omega)]
    exact ⟨Int.tmod_nonneg _ (by omega), Int.tmod_lt_of_pos _ (by omega)⟩
  · rw [if_neg hn]
    exact ⟨Int.tmod_nonneg _ (by omega), Int.tmod_lt_of_pos _ (by omega)⟩
theorem own_insl {w0 w : World} {L : List Asr} {Vs : List View} (h : Ws w0 [] L Vs w) (i : Nat) {c b e : Nat} {fz : Nat × Nat} {cur : List Ins} (hL : L[i]? = some (blk b (.cells (cur.flatMap Ins.cells).toArray e fz))) (hc : cur.length ≤ c) (hx : c ≤ 9223372036854775807) : Sl rdIns 3 (nv w0 w) (some ⟨b, 0, none⟩) c cur :=
  ⟨hc, hx, by simp, fun j x hj => ⟨b, 0, rfl, fun k v hk => h.nvc i hL (by
    have : k < 3 := (List.getElem?_eq_some_iff.1 hk).1
    simp only [cellIn, List.getElem?_toArray]
    rw [Nat.zero_add, flat_get Ins.cells_len hj this]; exact hk)⟩⟩
def littleCode : List Ins := [⟨18, 0, 0⟩, ⟨18, 0, 0⟩, ⟨10, 9, 0⟩, ⟨13, 6, 0⟩, ⟨19, 0, 0⟩, ⟨20, 0, 0⟩, ⟨14, 1, 0⟩, ⟨2, 0, 0⟩, ⟨1, 2, 0⟩, ⟨10, 11, 0⟩, ⟨15, 0, 0⟩]
theorem little_chk : checkImg littleCode 1 = 0 := by decide +kernel
theorem little_e1 : machE littleCode 1 [3, 4] 1 99 = 0 := by decide +kernel
theorem little_e2 : machE littleCode 1 [3, 4] 0 99 = 0 := by decide +kernel
theorem little_e3 : machE littleCode 1 [] 1 10 = 0 := by decide +kernel
theorem little_r1 : machR littleCode 1 [3, 4] 1 99 = (⟨0, [14], [0], 1⟩, 11) := by decide +kernel
theorem little_r2 : machR littleCode 1 [3, 4] 0 99 = (⟨3, [], [0], 0⟩, 4) := by decide +kernel
theorem little_r3 : machR littleCode 1 [] 1 10 = (⟨7, [0], [0], 1⟩, 10) := by decide +kernel
theorem hv_ivb {w0 w : World} {F : List Nat} {L : List Asr} {Vs : List View} (h : Ws w0 F L Vs w) (i : Nat) {c b e : Nat} {fz : Nat × Nat} {cur : List Int} (hL : L[i]? = some (blk b (.cells (cur.flatMap iv).toArray e fz))) (hc : cur.length ≤ c) (hx : c ≤ 9223372036854775807) : Sl rdI 1 (hv w) (some ⟨b, 0, none⟩) c cur :=
  ⟨hc, hx, by simp, fun j x hj => ⟨b, 0, rfl, h.hvb i hL (by
    simp only [cellIn, List.getElem?_toArray]
    rw [Nat.zero_add]
    have := flat_get iv_len hj (show 0 < 1 by omega)
    simpa [iv] using this)⟩⟩
theorem zr24 : zeroOf Try.prog 24 = some (.agg #[.slice none 0 0, .int .i64 0]) := by kernel_rfl
theorem pl65 : placesP Try.prog 65 = some [(0, 1), (1, 1), (2, 1)] := by kernel_rfl
theorem pl24 : placesP Try.prog 24 = some [(0, 1), (1, 1)] := by kernel_rfl
theorem sz24 : sizeP Try.prog 24 = some 2 := by kernel_rfl
theorem en68 : Enters Try.prog 68 := enters_of Try.func68 (by kernel_rfl) rfl
theorem en24 : Enters Try.prog 24 := enters_of Try.func24 (by kernel_rfl) rfl
theorem en29 : Enters Try.prog 29 := enters_of Try.func29 (by kernel_rfl) rfl

theorem choose_any (n m : Int) (hm : m ≠ 0) (w : World) :
    Calls Try.prog 30 #[.int .i64 n, .int .i64 m] w fun e w' => e = .returned (.int .i64 (chooseN n m)) ∧ Ext w w' := by
  refine enter Try.func30 rfl 13 rfl rfl ?_
  refine WC.world (W' := Ws w [] [] []) (fun _ e => by subst e; exact Ws.init (by simp)) ?_
  refine WC.seq ?_
  refine WC.region ?_
  refine WL.val (.inl rfl) rfl (yl_assign rfl) ?_
  refine WL.nil ?_
  refine WE.then_normal ?_
  refine WC.seq ?_
  refine WC.seq ?_
  refine WC.region ?_
  refine WL.val (.inl rfl) rfl (yl_move rfl) ?_
  refine WL.val (.inl rfl) rfl (yl_lt rfl rfl) ?_
  refine WL.nil ?_
  refine WE.then_normal ?_
  refine WC.cond rfl (fun hc0 => ?_) (fun hc0 => ?_)
  ·
    refine WC.region ?_
    refine WL.val (.inl rfl) rfl (yl_move rfl) ?_
    refine WL.val (.inl rfl) rfl (yl_addw rfl rfl) ?_
    refine WL.val (.inl rfl) rfl (yl_neg rfl) ?_
    refine WL.val (.inl rfl) rfl (yl_assign rfl) ?_
    refine WL.nil ?_
    refine WE.then_normal ?_
    refine WC.seq ?_
    refine WC.region ?_
    refine WL.val (.inl rfl) rfl (yl_move rfl) ?_
    refine WL.val (.inl rfl) rfl (yl_move rfl) ?_
    refine WL.val (.inl rfl) rfl (yl_rem rfl rfl hm) ?_
    refine WL.val (.inl rfl) rfl (yl_assign rfl) ?_
    refine WL.nil ?_
    refine WE.then_normal ?_
    refine WC.ret ?_
    refine WE.ret1 rfl rfl fun w' hw => ?_
    exact ⟨by rw [chooseN, if_pos (by simpa using hc0)], hw.fr⟩
  ·
    refine WC.skip ?_
    refine WE.then_normal ?_
    refine WC.seq ?_
    refine WC.region ?_
    refine WL.val (.inl rfl) rfl (yl_move rfl) ?_
    refine WL.val (.inl rfl) rfl (yl_move rfl) ?_
    refine WL.val (.inl rfl) rfl (yl_rem rfl rfl hm) ?_
    refine WL.val (.inl rfl) rfl (yl_assign rfl) ?_
    refine WL.nil ?_
    refine WE.then_normal ?_
    refine WC.ret ?_
    refine WE.ret1 rfl rfl fun w' hw => ?_
    exact ⟨by rw [chooseN, if_neg (by simpa using hc0)], hw.fr⟩

theorem little_any (w : World) :
    Calls Try.prog 68 #[] w fun e w' => ∃ r : Option Addr × Nat, e = .returned (.agg #[.slice r.1 littleCode.length r.2, .int .i64 1]) ∧ Ext w w' ∧ Sl rdIns 3 (nv w w') r.1 r.2 littleCode := by
  refine enter Try.func68 rfl 14 rfl rfl ?_
  refine WC.world (W' := Ws w [] [] []) (fun _ e => by subst e; exact Ws.init (by simp)) ?_
  refine WC.seq ?_
  refine WC.region ?_
  refine WL.alloc (.inl rfl) rfl zr24 fun b0 => ?_
  refine WL.nil ?_
  refine WE.then_normal ?_
  refine WC.seq ?_
  refine WC.region ?_
  refine WL.val (.inl rfl) rfl (yl_build zr65 pl65 rfl rfl) ?_
  refine WL.val (.inl rfl) rfl (yl_build zr65 pl65 rfl rfl) ?_
  refine WL.val (.inl rfl) rfl (yl_build zr65 pl65 rfl rfl) ?_
  refine WL.val (.inl rfl) rfl (yl_build zr65 pl65 rfl rfl) ?_
  refine WL.val (.inl rfl) rfl (yl_build zr65 pl65 rfl rfl) ?_
  refine WL.val (.inl rfl) rfl (yl_build zr65 pl65 rfl rfl) ?_
  refine WL.val (.inl rfl) rfl (yl_build zr65 pl65 rfl rfl) ?_
  refine WL.val (.inl rfl) rfl (yl_build zr65 pl65 rfl rfl) ?_
  refine WL.val (.inl rfl) rfl (yl_build zr65 pl65 rfl rfl) ?_
  refine WL.val (.inl rfl) rfl (yl_build zr65 pl65 rfl rfl) ?_
  refine WL.val (.inl rfl) rfl (yl_build zr65 pl65 rfl rfl) ?_
  refine WL.bsliceF (.inl rfl) rfl el22 rfl rfl rfl rfl fun b12 => ?_
  refine WL.val (.inl rfl) rfl (yl_build zr24 pl24 rfl rfl) ?_
  refine WL.store 1 (.inl rfl) rfl rfl rfl sz24 rfl rfl rfl ?_
  refine WL.nil ?_
  refine WE.then_normal ?_
  refine WC.ret ?_
  refine WE.retc1 1 rfl rfl rfl ag24 rfl fun w' hw => ?_
  exact ⟨(some ⟨b12, 0, none⟩, 11), rfl, hw.fr, own_insl (c := 11) (cur := littleCode) hw 0 rfl (by decide) (by decide)⟩

theorem machBegun_any (w : World) :
    Calls Try.prog 27 #[] w fun e w' => e = .returned (.bool true) ∧ Ext w w' := by
  refine enter Try.func27 rfl 74 rfl rfl ?_
  refine WC.world (W' := Ws w [] [] []) (fun _ e => by subst e; exact Ws.init (by simp)) ?_
  refine WC.seq ?_
  refine WC.region ?_
  refine WL.val (.inl rfl) rfl (yl_assign rfl) ?_
  refine WL.nil ?_
  refine WE.then_normal ?_
  refine WC.seq ?_
  refine WC.region ?_
  refine WL.calld (.inl rfl) rfl en68 rfl (fun r : Option Addr × Nat => .agg #[.slice r.1 littleCode.length r.2, .int .i64 1]) (fun H r => Sl rdIns 3 H r.1 r.2 littleCode) (fun w hw => little_any w) ?_
  intro F11 r11 hf11 h11
  refine WL.bsliceF (.inl rfl) rfl el50 rfl rfl rfl rfl fun b12 => ?_
  refine WL.calld (.inl rfl) rfl en24 rfl (fun r : (Option Addr × Nat) × (Option Addr × Nat) => .tuple #[.agg #[.int .i64 0, .slice r.1.1 1 r.1.2, .slice r.2.1 1 r.2.2, .int .i64 1], .int .i64 11, .int .i64 0]) (fun K r => Sl rdI 1 K r.1.1 r.1.2 [14] ∧ Sl rdI 1 K r.2.1 r.2.2 [0]) (fun w hw => by
      have := machRun_any F11 r11.1 r11.2 littleCode 1 (hv w) (some ⟨b12, 0, none⟩) 2 [3, 4] 1 99 w (hw.vs _ (by simp)) h11 (hv_le w) (hv_ivb (cur := [3, 4]) hw 0 rfl (by decide) (by decide))
      rw [little_e1, little_r1] at this
      exact this) ?_
  intro K13 r13 hf13 hk13
  refine WL.val (.inl rfl) rfl (yl_move rfl) ?_
  refine WL.val (.inl rfl) rfl (yl_extract rfl rfl) ?_
  refine WL.val (.inl rfl) rfl (yl_extract rfl rfl) ?_
  refine WL.val (.inl rfl) rfl (yl_extract rfl rfl) ?_
  refine WL.alloc (.inl rfl) rfl zr53 fun b1 => ?_
  refine WL.store 0 (.inl rfl) rfl rfl rfl sz53 rfl rfl rfl ?_
  refine WL.val (.inl rfl) rfl (yl_assign rfl) ?_
  refine WL.val (.inl rfl) rfl (yl_assign rfl) ?_
  refine WL.nil ?_
  refine WE.then_normal ?_
  refine WC.seq ?_
  refine WC.region ?_
  refine WL.calld (.inl rfl) rfl en68 rfl (fun r : Option Addr × Nat => .agg #[.slice r.1 littleCode.length r.2, .int .i64 1]) (fun H r => Sl rdIns 3 H r.1 r.2 littleCode) (fun w hw => little_any w) ?_
  intro F18 r18 hf18 h18
  refine WL.bsliceF (.inl rfl) rfl el50 rfl rfl rfl rfl fun b19 => ?_
  refine WL.calld (.inl rfl) rfl en24 rfl (fun r : (Option Addr × Nat) × (Option Addr × Nat) => .tuple #[.agg #[.int .i64 3, .slice r.1.1 0 r.1.2, .slice r.2.1 1 r.2.2, .int .i64 0], .int .i64 4, .int .i64 0]) (fun K r => Sl rdI 1 K r.1.1 r.1.2 [] ∧ Sl rdI 1 K r.2.1 r.2.2 [0]) (fun w hw => by
      have := machRun_any F18 r18.1 r18.2 littleCode 1 (hv w) (some ⟨b19, 0, none⟩) 2 [3, 4] 0 99 w (hw.vs _ (by simp)) h18 (hv_le w) (hv_ivb (cur := [3, 4]) hw 0 rfl (by decide) (by decide))
      rw [little_e2, little_r2] at this
      exact this) ?_
  intro K20 r20 hf20 hk20
  refine WL.val (.inl rfl) rfl (yl_move rfl) ?_
  refine WL.val (.inl rfl) rfl (yl_extract rfl rfl) ?_
  refine WL.val (.inl rfl) rfl (yl_extract rfl rfl) ?_
  refine WL.val (.inl rfl) rfl (yl_extract rfl rfl) ?_
  refine WL.alloc (.inl rfl) rfl zr53 fun b4 => ?_
  refine WL.store 0 (.inl rfl) rfl rfl rfl sz53 rfl rfl rfl ?_
  refine WL.val (.inl rfl) rfl (yl_assign rfl) ?_
  refine WL.val (.inl rfl) rfl (yl_assign rfl) ?_
  refine WL.nil ?_
  refine WE.then_normal ?_
  refine WC.seq ?_
  refine WC.region ?_
  refine WL.calld (.inl rfl) rfl en68 rfl (fun r : Option Addr × Nat => .agg #[.slice r.1 littleCode.length r.2, .int .i64 1]) (fun H r => Sl rdIns 3 H r.1 r.2 littleCode) (fun w hw => little_any w) ?_
  intro F25 r25 hf25 h25
  refine WL.calld (.inl rfl) rfl en24 rfl (fun r : (Option Addr × Nat) × (Option Addr × Nat) => .tuple #[.agg #[.int .i64 7, .slice r.1.1 1 r.1.2, .slice r.2.1 1 r.2.2, .int .i64 1], .int .i64 10, .int .i64 0]) (fun K r => Sl rdI 1 K r.1.1 r.1.2 [0] ∧ Sl rdI 1 K r.2.1 r.2.2 [0]) (fun w hw => by
      have := machRun_any F25 r25.1 r25.2 littleCode 1 (hv w) none 0 [] 1 10 w (hw.vs _ (by simp)) h25 (hv_le w) Sl.nil
      rw [little_e3, little_r3] at this
      exact this) ?_
  intro K26 r26 hf26 hk26
  refine WL.val (.inl rfl) rfl (yl_move rfl) ?_
  refine WL.val (.inl rfl) rfl (yl_extract rfl rfl) ?_
  refine WL.val (.inl rfl) rfl (yl_extract rfl rfl) ?_
  refine WL.val (.inl rfl) rfl (yl_extract rfl rfl) ?_
  refine WL.alloc (.inl rfl) rfl zr53 fun b7 => ?_
  refine WL.store 0 (.inl rfl) rfl rfl rfl sz53 rfl rfl rfl ?_
  refine WL.val (.inl rfl) rfl (yl_assign rfl) ?_
  refine WL.val (.inl rfl) rfl (yl_assign rfl) ?_
  refine WL.nil ?_
  refine WE.then_normal ?_
  refine WC.seq ?_
  refine WC.region ?_
  refine WL.calld (.inl rfl) rfl en68 rfl (fun r : Option Addr × Nat => .agg #[.slice r.1 littleCode.length r.2, .int .i64 1]) (fun H r => Sl rdIns 3 H r.1 r.2 littleCode) (fun w hw => little_any w) ?_
  intro F30 r30 hf30 h30
  refine WL.callp (.inl rfl) rfl en28 rfl (fun w hw => by
      have := check_any F30 r30.1 r30.2 littleCode 1 w (hw.vs _ (by simp)) h30
      rw [little_chk] at this
      exact this) ?_
  refine WL.val (.inl rfl) rfl (yl_eq rfl rfl) ?_
  refine WL.val (.inl rfl) rfl (yl_move rfl) ?_
  apply WL.and 2 rfl rfl rfl rfl (.inl rfl) rfl rfl rfl rfl rfl
  ·
    intro hg0
    refine WL.val (.inr ⟨_, _, _, rfl, rfl, rfl⟩) rfl (yl_move rfl) ?_
    refine WL.val (.inr ⟨_, _, _, rfl, rfl, rfl⟩) rfl (yl_eq rfl rfl) ?_
    exact Got.intro 2 rfl rfl rfl
  refine WL.val (.inl rfl) rfl (yl_move rfl) ?_
  apply WL.and 2 rfl rfl rfl rfl (.inl rfl) rfl rfl rfl rfl rfl
  ·
    intro hg1
    refine WL.val (.inr ⟨_, _, _, rfl, rfl, rfl⟩) rfl (yl_move rfl) ?_
    refine WL.val (.inr ⟨_, _, _, rfl, rfl, rfl⟩) rfl (yl_eq rfl rfl) ?_
    exact Got.intro 2 rfl rfl rfl
  refine WL.val (.inl rfl) rfl (yl_move rfl) ?_
  apply WL.and 2 rfl rfl rfl rfl (.inl rfl) rfl rfl rfl rfl rfl
  ·
    intro hg2
    refine WL.val (.inr ⟨_, _, _, rfl, rfl, rfl⟩) rfl (yl_move rfl) ?_
    refine WL.val (.inr ⟨_, _, _, rfl, rfl, rfl⟩) rfl (yl_eq rfl rfl) ?_
    exact Got.intro 2 rfl rfl rfl
  refine WL.val (.inl rfl) rfl (yl_move rfl) ?_
  apply WL.and 5 rfl rfl rfl rfl (.inl rfl) rfl rfl rfl rfl rfl
  ·
    intro hg3
    refine WL.val (.inr ⟨_, _, _, rfl, rfl, rfl⟩) rfl (yl_ldka 3 rfl rfl ag53 rfl) ?_
    refine WL.bsliceF (.inr ⟨_, _, _, rfl, rfl, rfl⟩) rfl el50 rfl rfl rfl rfl fun b47 => ?_
    refine WL.bsliceF (.inr ⟨_, _, _, rfl, rfl, rfl⟩) rfl el50 rfl rfl rfl rfl fun b48 => ?_
    refine WL.val (.inr ⟨_, _, _, rfl, rfl, rfl⟩) rfl (yl_build zr53 pl53 rfl rfl) ?_
    refine WL.callp (.inr ⟨_, _, _, rfl, rfl, rfl⟩) rfl en29 rfl (fun w hw => sameResults_any K13 (hv w) K13 (hv w) r13.1.1 (some ⟨b47, 0, none⟩) r13.2.1 (some ⟨b48, 0, none⟩) r13.1.2 1 r13.2.2 1 ⟨0, [14], [0], 1⟩ ⟨0, [14], [0], 1⟩ w (hw.vs K13 (by simp)) (hv_le w) (hw.vs K13 (by simp)) (hv_le w) hk13.1 (hv_ivb (cur := [14]) hw 1 rfl (by decide) (by decide)) hk13.2 (hv_ivb (cur := [0]) hw 0 rfl (by decide) (by decide))) ?_
    refine WL.wk ?_ (Got.intro 5 rfl rfl rfl)
    exact fun _ h => Ws.drop (L := [_, _]) h
  refine WL.val (.inl rfl) rfl (yl_move rfl) ?_
  apply WL.and 2 rfl rfl rfl rfl (.inl rfl) rfl rfl rfl rfl rfl
  ·
    intro hg4
    refine WL.val (.inr ⟨_, _, _, rfl, rfl, rfl⟩) rfl (yl_move rfl) ?_
    refine WL.val (.inr ⟨_, _, _, rfl, rfl, rfl⟩) rfl (yl_eq rfl rfl) ?_
    exact Got.intro 2 rfl rfl rfl
  refine WL.val (.inl rfl) rfl (yl_move rfl) ?_
  apply WL.and 3 rfl rfl rfl rfl (.inl rfl) rfl rfl rfl rfl rfl
  ·
    intro hg5
    refine WL.val (.inr ⟨_, _, _, rfl, rfl, rfl⟩) rfl (yl_fa fo53_0 rfl) ?_
    refine WL.val (.inr ⟨_, _, _, rfl, rfl, rfl⟩) rfl (yl_ldk 1 rfl rfl rfl na3) ?_
    refine WL.val (.inr ⟨_, _, _, rfl, rfl, rfl⟩) rfl (yl_eq rfl rfl) ?_
    exact Got.intro 3 rfl rfl rfl
  refine WL.val (.inl rfl) rfl (yl_move rfl) ?_
  apply WL.and 2 rfl rfl rfl rfl (.inl rfl) rfl rfl rfl rfl rfl
  ·
    intro hg6
    refine WL.val (.inr ⟨_, _, _, rfl, rfl, rfl⟩) rfl (yl_move rfl) ?_
    refine WL.val (.inr ⟨_, _, _, rfl, rfl, rfl⟩) rfl (yl_eq rfl rfl) ?_
    exact Got.intro 2 rfl rfl rfl
  refine WL.val (.inl rfl) rfl (yl_move rfl) ?_
  apply WL.and 3 rfl rfl rfl rfl (.inl rfl) rfl rfl rfl rfl rfl
  ·
    intro hg7
    refine WL.val (.inr ⟨_, _, _, rfl, rfl, rfl⟩) rfl (yl_fa fo53_0 rfl) ?_
    refine WL.val (.inr ⟨_, _, _, rfl, rfl, rfl⟩) rfl (yl_ldk 0 rfl rfl rfl na3) ?_
    refine WL.val (.inr ⟨_, _, _, rfl, rfl, rfl⟩) rfl (yl_eq rfl rfl) ?_
    exact Got.intro 3 rfl rfl rfl
  refine WL.val (.inl rfl) rfl (yl_move rfl) ?_
  apply WL.and 2 rfl rfl rfl rfl (.inl rfl) rfl rfl rfl rfl rfl
  ·
    intro hg8
    refine WL.val (.inr ⟨_, _, _, rfl, rfl, rfl⟩) rfl (yl_move rfl) ?_
    refine WL.val (.inr ⟨_, _, _, rfl, rfl, rfl⟩) rfl (yl_eq rfl rfl) ?_
    exact Got.intro 2 rfl rfl rfl
  refine WL.val (.inl rfl) rfl (yl_assign rfl) ?_
  refine WL.nil ?_
  refine WE.then_normal ?_
  refine WC.ret ?_
  refine WE.ret1 rfl rfl fun w' hw => ?_
  exact ⟨by simp, hw.fr⟩

end Go.Proofs.Ytagoencpeflmlaa
