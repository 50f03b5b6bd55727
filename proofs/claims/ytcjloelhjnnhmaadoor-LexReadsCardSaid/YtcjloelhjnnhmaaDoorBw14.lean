/- Own base: rules that step through the code of a function, with what is known of its slots and of the memory kept as a list; no condition. -/
import Derived.Test.YtcjloelhjnnhmaaDoorBw13
namespace Go.Bw
open Go Go.RowKit

/-! ### Regions that draw, where several steps may come that are not quiet: a tree of orders -/
inductive Ord where
  | nil
  | stop
  | q (i : Nat) (r : Ord)
  | e (i : Nat) (r alt : Ord)
def Ord.alts : Ord → List Nat
  | .e i _ alt => i :: alt.alts
  | _ => []
def ordG (md : Region.Mode) (ops : Array Oper) : Bool → Ord → Nat → Array Bool → Bool
  | top, .nil, k, listed => top && (Nat.beq k 0 && (Region.ready md ops listed).isEmpty)
  | top, .stop, _, _ => !top
  | top, .q i r, k, listed => match k with
    | 0 => false
    | k + 1 => top && ((Region.ready md ops listed).contains i && Region.free md ops listed i && ordG md ops true r k (listed.setIfInBounds i true))
  | top, .e i r alt, k, listed => match k with
    | 0 => false
    | k + 1 => (bif top then Region.ready md ops listed == i :: alt.alts else true) && (ordG md ops true r k (listed.setIfInBounds i true) && ordG md ops false alt (k + 1) listed)
section
variable {P : Program} {md : Region.Mode} {ops : Array Oper} {C : World → Prop} {Q : Exit → Act → World → Prop}
def wpT (P : Program) (ops : Array Oper) (C : World → Prop) (Q : Exit → Act → World → Prop) : Ord → Act → World → Prop
  | .nil, a, w => C w ∧ Q .normal a w
  | .stop, _, _ => True
  | .q i r, a, w => C w ∧ ∃ o v, ops[i]? = some o ∧ YV P ops C o v a ∧ wpT P ops C Q r (a.put o.dst v) w
  | .e i r alt, a, w => C w ∧ (wpOp P ops Q i (wpT P ops C Q r) a w ∧ wpT P ops C Q alt a w)
theorem wpT_any (hs : Region.noSelect ops = true) (hQ : ∀ c a w d v, Q (.panic c) (a.put d v) w → Q (.panic c) a w) : ∀ (o : Ord) (k : Nat) (listed : Array Bool) (a : Act) (w : World),
    (ordG md ops true o k listed = true → wpT P ops C Q o a w → wpAnyC P md ops C Q k listed a w) ∧
    (ordG md ops false o k listed = true → wpT P ops C Q o a w → ∀ j ∈ o.alts, ∃ k', k = k' + 1 ∧ wpOp P ops Q j (wpAnyC P md ops C Q k' (listed.setIfInBounds j true)) a w)
  | .nil, k, listed, a, w => by
    refine ⟨fun hB h => ?_, fun hB => by simp [ordG] at hB⟩
    simp only [ordG, Bool.true_and, Bool.and_eq_true] at hB
    obtain rfl := Nat.eq_of_beq_eq_true hB.1
    exact ⟨h.1, by simpa using hB.2, h.2⟩
  | .stop, k, listed, a, w => ⟨fun hB => by simp [ordG] at hB, fun _ _ j hj => by simp [Ord.alts] at hj⟩
  | .q i r, k, listed, a, w => by
    cases k with
    | zero => exact ⟨fun hB => by simp [ordG] at hB, fun hB => by simp [ordG] at hB⟩
    | succ k =>
      refine ⟨fun hB h => ?_, fun hB => by simp [ordG] at hB⟩
      simp only [ordG, Bool.true_and, Bool.and_eq_true] at hB
      obtain ⟨hC, o, v, ho, hy, h⟩ := h
      exact wpAnyC_first ho (Region.noSelect_spec hs) (fun c a w => hQ c a w o.dst v) k listed a w (Region.free_spec ho hB.1.2) (by simpa using hB.1.1) hy hC
        ((wpT_any hs hQ r k _ _ _).1 hB.2 h)
  | .e i r alt, k, listed, a, w => by
    cases k with
    | zero => exact ⟨fun hB => by simp [ordG] at hB, fun hB => by simp [ordG] at hB⟩
    | succ k =>
      have hsub : ordG md ops true r k (listed.setIfInBounds i true) = true → ordG md ops false alt (k + 1) listed = true → wpT P ops C Q (.e i r alt) a w →
          ∀ j ∈ i :: alt.alts, wpOp P ops Q j (wpAnyC P md ops C Q k (listed.setIfInBounds j true)) a w := by
        intro h1 h2 h j hj
        rcases List.mem_cons.1 hj with rfl | hj
        · exact wpOp_mono (fun a' w' h' => (wpT_any hs hQ r k _ a' w').1 h1 h') h.2.1
        · obtain ⟨k', hk, hx⟩ := (wpT_any hs hQ alt (k + 1) listed a w).2 h2 h.2.2 j hj
          injection hk with hk
          subst hk
          exact hx
      refine ⟨fun hB h => ?_, fun hB h j hj => ?_⟩
      · simp only [ordG, cond_true, Bool.and_eq_true, beq_iff_eq] at hB
        refine ⟨h.1, fun he => (by rw [he] at hB; cases hB.1), fun j hj => ?_⟩
        rw [hB.1] at hj
        exact hsub hB.2.1 hB.2.2 h j hj
      · simp only [ordG, cond_false, Bool.true_and, Bool.and_eq_true] at hB
        exact ⟨k, rfl, hsub hB.1 hB.2 h j hj⟩
theorem wp_region_t {id : Nat} {a : Act} {w : World} {l : List Oper} (ord : Ord) (hm : P.follows .mixedOrders = true) (hB : (Region.noSelect l.toArray && ordG .any l.toArray true ord l.toArray.size (Array.replicate l.toArray.size false)) = true)
    (hQ : ∀ c a w d v, Q (.panic c) (a.put d v) w → Q (.panic c) a w) (h : wpT P l.toArray C Q ord a w.drew) : (Code.region id l.toArray true).wp P Q a w := by
  simp only [Bool.and_eq_true] at hB
  have := wpAny_of_C (md := .any) _ _ _ _ ((wpT_any hB.1 hQ ord _ _ a w.drew).1 hB.2 h)
  exact wp_region_any hm this
variable {n : Nat} {ds : List Deferred} {l : List (Nat × Value)} {W : World → Prop}
def WT (P : Program) (ops : Array Oper) (C : World → Prop) (Q : Exit → Act → World → Prop) (n : Nat) (ds : List Deferred) (l : List (Nat × Value)) (W : World → Prop) (ord : Ord) : Prop :=
  ∀ a w, Ag n ds l a → W w → wpT P ops C Q ord a w
theorem WT.q {r : Ord} {i d : Nat} {op : Op} {ty : TypeId} {pos : String} {af : Array Edge} {g : Option (Nat × Bool)} {v : Value} (hi : ops[i]? = some ⟨some d, op, ty, pos, af, g⟩) (hg : GOk ops l g) (hn : Nat.blt d n = true)
    (hC : ∀ w, W w → C w) (hy : Yl P l C ⟨some d, op, ty, pos, af, g⟩ v) (h : WT P ops C Q n ds ((d, v) :: l) W r) : WT P ops C Q n ds l W (.q i r) := by
  intro a w ha hw
  refine ⟨hC w hw, _, v, hi, .inl ⟨GOk.wanted (o := ⟨some d, op, ty, pos, af, g⟩) hg ha, fun w' hw' => hy a.eval w' (fun x u hx => ha.eval hx) hw'⟩, h _ _ (ha.put hn v) hw⟩
theorem WT.e {r alt : Ord} {i : Nat} {o : Oper} (hi : ops[i]? = some o) (hC : ∀ w, W w → C w) (h : WL P ops (Exit.then (wpT P ops C Q r) Q) n ds l W [o]) (h2 : WT P ops C Q n ds l W alt) : WT P ops C Q n ds l W (.e i r alt) := by
  intro a w ha hw
  refine ⟨hC w hw, ?_, h2 a w ha hw⟩
  have := h a w ha hw
  unfold wpList at this
  unfold wpOp
  simp only [hi]
  split
  · rename_i hw'
    rw [if_pos hw'] at this
    rcases this with this | ⟨h1, a2, w2, h2⟩
    · left
      unfold Oper.wp at this ⊢
      unfold Oper.upon at this ⊢
      split at this
      all_goals first
        | exact this
        | (refine this.mono fun e w' he => ?_
           cases e with
           | returned v => exact he
           | panicked ch => exact he
           | outgrown => obtain ⟨a3, w3, h3⟩ := he; exact ⟨a3, w3, h3⟩)
        | exact this.mono fun v w' he => he
    · exact .inr ⟨h1, a2, w2, h2⟩
  · rename_i hw'
    rw [if_neg hw'] at this
    exact this
theorem WT.stop : WT P ops C Q n ds l W .stop := fun _ _ _ _ => trivial
theorem WE.toT {r : Ord} (h : WT P ops C Q n ds l W r) : WE (Exit.then (wpT P ops C Q r) Q) .normal n ds l W := h
theorem WT.nil (hC : ∀ w, W w → C w) (h : WE Q .normal n ds l W) : WT P ops C Q n ds l W .nil := fun a w ha hw => ⟨hC w hw, h a w ha hw⟩
theorem WC.drawt0 {id : Nat} {os : List Oper} {w0 : World} {F : List Nat} {L : List Asr} {Vs : List View} (ord : Ord) (hm : P.follows .mixedOrders = true) (hB : (Region.noSelect os.toArray && ordG .any os.toArray true ord os.toArray.size (Array.replicate os.toArray.size false)) = true)
    (hQ : ∀ c a w d v, Q (.panic c) (a.put d v) w → Q (.panic c) a w) (h : WT P os.toArray (Ws w0 F L Vs) Q n ds l (Ws w0 F L Vs) ord) : WC P (.region id os.toArray true) Q n ds l (Ws w0 F L Vs) :=
  fun a w ha hw => wp_region_t ord hm hB hQ (h a w.drew ha hw.drew)
theorem WC.drawt1 {id : Nat} {os : List Oper} {w0 : World} {F : List Nat} {L : List Asr} {Vs : List View} (i : Nat) (ord : Ord) (hm : P.follows .mixedOrders = true) (hB : (Region.noSelect os.toArray && ordG .any os.toArray true ord os.toArray.size (Array.replicate os.toArray.size false)) = true)
    (hQ : ∀ c a w d v, Q (.panic c) (a.put d v) w → Q (.panic c) a w) (h : WT P os.toArray (Ws w0 F (outOf i L) Vs) Q n ds l (Ws w0 F L Vs) ord) : WC P (.region id os.toArray true) Q n ds l (Ws w0 F L Vs) :=
  fun a w ha hw => wp_region_t ord hm hB hQ (h a w.drew ha hw.drew)
end
end Go.Bw
