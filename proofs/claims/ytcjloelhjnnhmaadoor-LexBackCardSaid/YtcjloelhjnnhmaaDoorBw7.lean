/- Own base: rules that step through the code of a function, with what is known of its slots and of the memory kept as a list; no condition. -/
import Derived.Test.YtcjloelhjnnhmaaDoorBw6
namespace Go.Bw
open Go Go.RowKit

/-! ### Regions that draw their order: what only reads may come first -/
section
variable {P : Program} {md : Region.Mode} {ops : Array Oper} {C : World → Prop} {Q : Exit → Act → World → Prop}

def YV (P : Program) (ops : Array Oper) (C : World → Prop) (o : Oper) (v : Value) (a : Act) : Prop :=
  (Region.wanted o (yielded ops a.tmps) = true ∧ ∀ w, C w → (execOp a.eval o).run P w = .ok (.value v) w) ∨
  (Region.wanted o (yielded ops a.tmps) = false ∧ v = undef)
theorem YV.of_same {o : Oper} {v : Value} {a a' : Act} (hy : YV P ops C o v a) (he : execOp a'.eval o = execOp a.eval o)
    (hw : Region.wanted o (yielded ops a'.tmps) = Region.wanted o (yielded ops a.tmps)) : YV P ops C o v a' := by
  unfold YV at *
  rw [he, hw]
  exact hy
theorem YV.wpOp {i : Nat} {o : Oper} {v : Value} {a : Act} {w : World} (hi : ops[i]? = some o) (hy : YV P ops C o v a) (hC : C w) {K : Act → World → Prop} (h : K (a.put o.dst v) w) : wpOp P ops Q i K a w := by
  unfold Go.wpOp
  simp only [hi]
  rcases hy with ⟨hw, hv⟩ | ⟨hw, rfl⟩
  · simp only [hw, if_true]
    refine .inl ?_
    simp only [Oper.wp, hv w hC, Oper.upon_value]
    exact h
  · simp only [hw, Bool.false_eq_true, if_false]; exact h
def wpAnyC (P : Program) (md : Region.Mode) (ops : Array Oper) (C : World → Prop) (Q : Exit → Act → World → Prop) : Nat → Array Bool → Act → World → Prop
  | 0, listed, a, w => C w ∧ Region.ready md ops listed = [] ∧ Q .normal a w
  | fuel + 1, listed, a, w => C w ∧ (Region.ready md ops listed = [] → Q .normal a w) ∧
    ∀ i ∈ Region.ready md ops listed, wpOp P ops Q i (wpAnyC P md ops C Q fuel (listed.setIfInBounds i true)) a w
theorem wpAny_of_C : ∀ (fuel : Nat) (listed : Array Bool) (a : Act) (w : World), wpAnyC P md ops C Q fuel listed a w → wpAny P md ops Q fuel listed a w
  | 0, _, _, _, h => h.2
  | fuel + 1, listed, a, w, h => ⟨h.2.1, fun i hi => wpOp_mono (fun a' w' h' => wpAny_of_C fuel _ a' w' h') (h.2.2 i hi)⟩
theorem wpAnyC.c {fuel : Nat} {listed : Array Bool} {a : Act} {w : World} (h : wpAnyC P md ops C Q fuel listed a w) : C w := by cases fuel <;> exact h.1
theorem wpOp_putC {j : Nat} {oi oj : Oper} {v : Value} (hj : ops[j]? = some oj) (hap : oi.apart ops oj = true)
    (hsi : ∀ cs b, oi.op ≠ .select cs b) (hsj : ∀ cs b, oj.op ≠ .select cs b)
    (hQ : ∀ c a w, Q (.panic c) (a.put oi.dst v) w → Q (.panic c) a w) {K : Act → World → Prop} {a : Act} {w : World}
    (hy : YV P ops C oi v a) (h : wpOp P ops Q j K (a.put oi.dst v) w) :
    wpOp P ops Q j (fun a' w' => YV P ops C oi v a' ∧ K (a'.put oi.dst v) w') a w := by
  obtain ⟨h1, h2, h3⟩ := Oper.apart_spec hap
  have keep : ∀ (a : Act), YV P ops C oi v a → ∀ u, YV P ops C oi v (a.put oj.dst u) := fun a hy u =>
    hy.of_same (execOp_put oi hsi a oj.dst u h3) (wanted_put oi a oj.dst u h3)
  have keepD : ∀ d, YV P ops C oi v { a with defers := d :: a.defers } := fun d => hy.of_same rfl rfl
  unfold wpOp at *
  simp only [hj] at *
  rw [wanted_put oj a oi.dst v h1] at h
  split
  · rename_i hw
    simp only [hw, if_true] at h
    rcases h with h | ⟨hasks, hlets⟩
    case inr => exact .inr ⟨by unfold Oper.asks at *; rw [execOp_put oj hsj a oi.dst v h1] at hasks; exact hasks, hlets⟩
    refine .inl ?_
    unfold Oper.wp at *
    rw [execOp_put oj hsj a oi.dst v h1] at h
    generalize (execOp a.eval oj).run P w = r at *
    cases r with
    | ok n w' =>
      cases n <;> simp only [Oper.upon] at h ⊢
      case value u => exact ⟨keep a hy u, by rw [← Act.put_comm a v u h2]; exact h⟩
      case skip => exact ⟨keep a hy _, by rw [← Act.put_comm a v undef h2]; exact h⟩
      case defer d =>
        refine ⟨keep _ (keepD d) _, ?_⟩
        rw [← Act.put_comm _ v undef h2, ← Act.put_defers]
        exact h
      case enter f args =>
        refine Calls.mono h fun e w'' he => ?_
        cases e with
        | returned u => exact ⟨keep a hy u, by rw [← Act.put_comm a v u h2]; exact he⟩
        | panicked c => exact hQ _ _ _ he
        | outgrown => exact he
      case row row args => exact Rows.mono h fun u w'' he => ⟨keep a hy u, by rw [← Act.put_comm a v u h2]; exact he⟩
    | halt x w' =>
      cases x <;> simp only [Oper.upon] at h ⊢
      case panic u => exact hQ _ _ _ h
  · rename_i hw
    simp only [hw] at h
    exact ⟨keep a hy _, by rw [← Act.put_comm a v undef h2]; exact h⟩
theorem wpAnyC_first {i : Nat} {oi : Oper} {v : Value} (hi : ops[i]? = some oi) (hsel : ∀ (j : Nat) (o : Oper) cs b, ops[j]? = some o → o.op ≠ .select cs b)
    (hQ : ∀ c a w, Q (.panic c) (a.put oi.dst v) w → Q (.panic c) a w) :
    ∀ (fuel : Nat) (listed : Array Bool) (a : Act) (w : World),
      (∀ j oj, ops[j]? = some oj → j ≠ i → listed.getD j true = false → (∀ e ∈ oj.after, Region.binds md e = true → e.on ≠ i) → oi.apart ops oj = true) →
      i ∈ Region.ready md ops listed → YV P ops C oi v a → C w →
      wpAnyC P md ops C Q fuel (listed.setIfInBounds i true) (a.put oi.dst v) w → wpAnyC P md ops C Q (fuel + 1) listed a w := by
  intro fuel
  induction fuel with
  | zero =>
    intro listed a w _ hr hy hC H
    refine ⟨hC, fun h => (by rw [h] at hr; cases hr), fun j hj => ?_⟩
    by_cases hji : j = i
    · subst hji; exact hy.wpOp hi hC H
    · have := ready_mono hj hji
      rw [H.2.1] at this
      cases this
  | succ fuel ih =>
    intro listed a w hfree hr hy hC H
    refine ⟨hC, fun h => (by rw [h] at hr; cases hr), fun j hj => ?_⟩
    by_cases hji : j = i
    · subst hji; exact hy.wpOp hi hC H
    · have h1 := H.2.2 j (ready_mono hj hji)
      obtain ⟨hjun, oj, hoj, hall⟩ := mem_ready.1 hj
      have hnot : ∀ e ∈ oj.after, Region.binds md e = true → e.on ≠ i := fun e he hb heq => by
        have h1 := hall e he hb
        have h0 := (mem_ready.1 hr).1
        rw [heq] at h1
        rcases Nat.lt_or_ge i listed.size with h' | h'
        · simp [h'] at h0 h1; rw [h0] at h1; cases h1
        · simp [Array.getElem?_eq_none h'] at h1
      have h2 := wpOp_putC hoj (hfree j oj hoj hji hjun hnot) (fun cs b => hsel i oi cs b hi) (fun cs b => hsel j oj cs b hoj) hQ hy h1
      have hfree' : ∀ k ok, ops[k]? = some ok → k ≠ i → (listed.setIfInBounds j true).getD k true = false →
          (∀ e ∈ ok.after, Region.binds md e = true → e.on ≠ i) → oi.apart ops ok = true := fun k ok hk hki hun hno => by
        refine hfree k ok hk hki ?_ hno
        by_cases hjk : j = k
        · subst hjk; exact hjun
        · rw [getD_set_ne true hjk] at hun; exact hun
      refine wpOp_mono (fun a' w' h3 => ih (listed.setIfInBounds j true) a' w' hfree' (ready_mono hr (Ne.symm hji)) h3.1 h3.2.c ?_) h2
      rw [Array.setIfInBounds_comm _ _ hji]
      exact h3.2

/-- An order in which each operation either only reads, and may come first, or is the only one that may come. -/
def ordB (md : Region.Mode) (ops : Array Oper) : List (Nat × Bool) → Array Bool → Bool
  | [], listed => (Region.ready md ops listed).isEmpty
  | (i, q) :: r, listed => (bif q then (Region.ready md ops listed).contains i && Region.free md ops listed i else Region.ready md ops listed == [i]) && ordB md ops r (listed.setIfInBounds i true)
def wpC (P : Program) (ops : Array Oper) (C : World → Prop) (Q : Exit → Act → World → Prop) : List (Nat × Bool) → Act → World → Prop
  | [], a, w => C w ∧ Q .normal a w
  | (i, true) :: r, a, w => C w ∧ ∃ o v, ops[i]? = some o ∧ YV P ops C o v a ∧ wpC P ops C Q r (a.put o.dst v) w
  | (i, false) :: r, a, w => C w ∧ wpOp P ops Q i (wpC P ops C Q r) a w
theorem wpAnyC_ord (hs : Region.noSelect ops = true) (hQ : ∀ c a w d v, Q (.panic c) (a.put d v) w → Q (.panic c) a w) : ∀ (ord : List (Nat × Bool)) (listed : Array Bool) (a : Act) (w : World),
    ordB md ops ord listed = true → wpC P ops C Q ord a w → wpAnyC P md ops C Q ord.length listed a w
  | [], listed, a, w, hB, h => ⟨h.1, by simpa [ordB] using hB, h.2⟩
  | (i, true) :: r, listed, a, w, hB, h => by
    simp only [ordB, cond_true, Bool.and_eq_true] at hB
    obtain ⟨hC, o, v, ho, hy, h⟩ := h
    exact wpAnyC_first ho (Region.noSelect_spec hs) (fun c a w => hQ c a w o.dst v) r.length listed a w (Region.free_spec ho hB.1.2) (by simpa using hB.1.1) hy hC
      (wpAnyC_ord hs hQ r _ _ _ hB.2 h)
  | (i, false) :: r, listed, a, w, hB, h => by
    simp only [ordB, cond_false, Bool.and_eq_true, beq_iff_eq] at hB
    refine ⟨h.1, fun he => (by rw [he] at hB; cases hB.1), fun j hj => ?_⟩
    rw [hB.1] at hj
    simp at hj
    subst hj
    exact wpOp_mono (fun a' w' h' => wpAnyC_ord hs hQ r _ _ _ hB.2 h') h.2
theorem wp_region_c {id : Nat} {a : Act} {w : World} {l : List Oper} (ord : List (Nat × Bool)) (hm : P.follows .mixedOrders = true) (hB : (Region.noSelect l.toArray && (ord.length == l.toArray.size && ordB .any l.toArray ord (Array.replicate l.toArray.size false))) = true)
    (hQ : ∀ c a w d v, Q (.panic c) (a.put d v) w → Q (.panic c) a w) (h : wpC P l.toArray C Q ord a w.drew) : (Code.region id l.toArray true).wp P Q a w := by
  simp only [Bool.and_eq_true, beq_iff_eq] at hB
  have := wpAny_of_C (md := .any) _ _ _ _ (wpAnyC_ord hB.1 hQ ord _ a w.drew hB.2.2 h)
  rw [hB.2.1] at this
  exact wp_region_any hm this

variable {n : Nat} {ds : List Deferred} {l : List (Nat × Value)} {W : World → Prop}
def WD (P : Program) (ops : Array Oper) (C : World → Prop) (Q : Exit → Act → World → Prop) (n : Nat) (ds : List Deferred) (l : List (Nat × Value)) (W : World → Prop) (ord : List (Nat × Bool)) : Prop :=
  ∀ a w, Ag n ds l a → W w → wpC P ops C Q ord a w
theorem WC.draws {id : Nat} {os : List Oper} (C : World → Prop) (ord : List (Nat × Bool)) (hm : P.follows .mixedOrders = true) (hB : (Region.noSelect os.toArray && (ord.length == os.toArray.size && ordB .any os.toArray ord (Array.replicate os.toArray.size false))) = true)
    (hQ : ∀ c a w d v, Q (.panic c) (a.put d v) w → Q (.panic c) a w) (hW : ∀ w, W w → W w.drew) (h : WD P os.toArray C Q n ds l W ord) : WC P (.region id os.toArray true) Q n ds l W :=
  fun a w ha hw => wp_region_c ord hm hB hQ (h a w.drew ha (hW w hw))
theorem WD.q {r : List (Nat × Bool)} {i d : Nat} {op : Op} {ty : TypeId} {pos : String} {af : Array Edge} {g : Option (Nat × Bool)} {v : Value} (hi : ops[i]? = some ⟨some d, op, ty, pos, af, g⟩) (hg : GOk ops l g) (hn : Nat.blt d n = true)
    (hC : ∀ w, W w → C w) (hy : Yl P l C ⟨some d, op, ty, pos, af, g⟩ v) (h : WD P ops C Q n ds ((d, v) :: l) W r) : WD P ops C Q n ds l W ((i, true) :: r) := by
  intro a w ha hw
  refine ⟨hC w hw, _, v, hi, .inl ⟨GOk.wanted (o := ⟨some d, op, ty, pos, af, g⟩) hg ha, fun w' hw' => hy a.eval w' (fun x u hx => ha.eval hx) hw'⟩, h _ _ (ha.put hn v) hw⟩
theorem WD.e {r : List (Nat × Bool)} {i : Nat} {o : Oper} (hi : ops[i]? = some o) (hC : ∀ w, W w → C w) (h : WL P ops (Exit.then (wpC P ops C Q r) Q) n ds l W [o]) : WD P ops C Q n ds l W ((i, false) :: r) := by
  intro a w ha hw
  refine ⟨hC w hw, ?_⟩
  have := h a w ha hw
  unfold wpList at this
  unfold wpOp
  simp only [hi]
  split
  · rename_i hw'
    rw [if_pos hw'] at this
    rcases this with this | ⟨h1, a2, w2, h2⟩
    · left
      unfold Oper.wp at this ⊢
      unfold Oper.upon at this ⊢
      split at this
      all_goals first
        | exact this
        | (refine this.mono fun e w' he => ?_
           cases e with
           | returned v => exact he
           | panicked ch => exact he
           | outgrown => obtain ⟨a3, w3, h3⟩ := he; exact ⟨a3, w3, h3⟩)
        | exact this.mono fun v w' he => he
    · exact .inr ⟨h1, a2, w2, h2⟩
  · rename_i hw'
    rw [if_neg hw'] at this
    exact this
theorem WE.toD {r : List (Nat × Bool)} (h : WD P ops C Q n ds l W r) : WE (Exit.then (wpC P ops C Q r) Q) .normal n ds l W := h
theorem WD.nil (hC : ∀ w, W w → C w) (h : WE Q .normal n ds l W) : WD P ops C Q n ds l W [] := fun a w ha hw => ⟨hC w hw, h a w ha hw⟩
theorem Ws.drew {w0 w : World} {F : List Nat} {L : List Asr} {Vs : List View} (h : Ws w0 F L Vs w) : Ws w0 F L Vs w.drew := h.ext (Ext.drew w)
theorem Ws.out {w0 w : World} {F : List Nat} {L : List Asr} {Vs : List View} (i : Nat) (h : Ws w0 F L Vs w) : Ws w0 F (outOf i L) Vs w := by
  cases hx : L[i]? with
  | none =>
    have : outOf i L = L := by
      clear h
      induction L generalizing i with
      | nil => cases i <;> rfl
      | cons x r ih =>
        cases i with
        | zero => simp at hx
        | succ i => simp only [outOf]; rw [ih i (by simpa using hx)]
    rw [this]; exact h
  | some x => exact Ws.drop (L := [x]) (h.perm (outOf_perm i L hx))
end
end Go.Bw
