/- Own base: rules that step through the code of a function, with what is known of its slots and of the memory kept as a list; no condition. -/
import Derived.Test.YtcjloelhjnnhmaaDoorBw21
namespace Go.Bw
set_option linter.unusedVariables false
set_option linter.unnecessarySimpa false
set_option linter.unusedSimpArgs false
open Go Go.RowKit

/-! ### Regions that draw, once more: what only reads may come first; stores that come behind all that reads -/
section
variable {P : Program} {md : Region.Mode} {ops : Array Oper} {S : List Nat} {C : World → Prop} {Q : Exit → Act → World → Prop}
def unl (S : List Nat) (listed : Array Bool) : Prop := ∀ s ∈ S, listed.getD s true = false
def wpAnyE (P : Program) (md : Region.Mode) (ops : Array Oper) (S : List Nat) (C : World → Prop) (Q : Exit → Act → World → Prop) : Nat → Array Bool → Act → World → Prop
  | 0, listed, a, w => (unl S listed → C w) ∧ Region.ready md ops listed = [] ∧ Q .normal a w
  | fuel + 1, listed, a, w => (unl S listed → C w) ∧ (Region.ready md ops listed = [] → Q .normal a w) ∧
    ∀ i ∈ Region.ready md ops listed, wpOp P ops Q i (wpAnyE P md ops S C Q fuel (listed.setIfInBounds i true)) a w
theorem wpAny_of_E : ∀ (fuel : Nat) (listed : Array Bool) (a : Act) (w : World), wpAnyE P md ops S C Q fuel listed a w → wpAny P md ops Q fuel listed a w
  | 0, _, _, _, h => h.2
  | fuel + 1, listed, a, w, h => ⟨h.2.1, fun i hi => wpOp_mono (fun a' w' h' => wpAny_of_E fuel _ a' w' h') (h.2.2 i hi)⟩
theorem wpAnyE.c {fuel : Nat} {listed : Array Bool} {a : Act} {w : World} (h : wpAnyE P md ops S C Q fuel listed a w) : unl S listed → C w := by cases fuel <;> exact h.1
theorem unl_set {i : Nat} (hi : i ∉ S) {listed : Array Bool} : unl S (listed.setIfInBounds i true) ↔ unl S listed := by
  constructor
  · intro h s hs
    have hne : i ≠ s := fun e => by subst e; exact hi hs
    have := h s hs
    rwa [getD_set_ne true hne] at this
  · intro h s hs
    have hne : i ≠ s := fun e => by subst e; exact hi hs
    rw [getD_set_ne true hne]
    exact h s hs
/-- What is listed stands behind what it needs. -/
def Closed (md : Region.Mode) (ops : Array Oper) (listed : Array Bool) : Prop := ∀ (j : Nat) (o : Oper), ops[j]? = some o → listed.getD j true = true → ∀ e ∈ o.after, Region.binds md e = true → listed.getD e.on true = true
def reachB (md : Region.Mode) (ops : Array Oper) (i : Nat) : Nat → Nat → Bool
  | 0, _ => false
  | f + 1, s => match ops[s]? with
    | some os => os.after.any fun e => Region.binds md e && (Nat.beq e.on i || reachB md ops i f e.on)
    | none => false
theorem reach_listed {listed : Array Bool} (hcl : Closed md ops listed) {i : Nat} : ∀ (f s : Nat), reachB md ops i f s = true → (∀ o, ops[s]? = some o → ∀ e ∈ o.after, Region.binds md e = true → listed.getD e.on true = true) → listed.getD i true = true
  | 0, s, h, _ => by simp [reachB] at h
  | f + 1, s, h, hs => by
    simp only [reachB] at h
    cases ho : ops[s]? with
    | none => simp [ho] at h
    | some o =>
      simp only [ho] at h
      obtain ⟨e, he, hbe⟩ := Array.any_eq_true'.1 h
      simp only [Bool.and_eq_true, Bool.or_eq_true] at hbe
      have hl := hs o ho e he hbe.1
      rcases hbe.2 with h1 | h1
      · have := Nat.eq_of_beq_eq_true h1
        rw [this] at hl; exact hl
      · exact reach_listed hcl f e.on h1 fun o' ho' e' he' hb' => hcl e.on o' ho' hl e' he' hb'
theorem ready_preds {listed : Array Bool} {j : Nat} (hj : j ∈ Region.ready md ops listed) : ∀ o, ops[j]? = some o → ∀ e ∈ o.after, Region.binds md e = true → listed.getD e.on true = true := by
  intro o ho e he hb
  obtain ⟨_, oj, hoj, hall⟩ := mem_ready.1 hj
  rw [ho] at hoj
  injection hoj with hoj
  subst hoj
  have h1 := hall e he hb
  rcases Nat.lt_or_ge e.on listed.size with h' | h'
  · simp [Array.getD_eq_getD_getElem?, h'] at h1 ⊢
    exact h1
  · simp [Array.getD_eq_getD_getElem?, Array.getElem?_eq_none h']
theorem Closed.set {listed : Array Bool} {j : Nat} (hcl : Closed md ops listed) (hj : j ∈ Region.ready md ops listed) : Closed md ops (listed.setIfInBounds j true) := by
  have up : ∀ k, listed.getD k true = true → (listed.setIfInBounds j true).getD k true = true := by
    intro k hk
    by_cases hjk : j = k
    · subst hjk
      rcases Nat.lt_or_ge j listed.size with h' | h'
      · simp [Array.getD_eq_getD_getElem?, h']
      · simp [Array.getD_eq_getD_getElem?, h']
    · rw [getD_set_ne true hjk]; exact hk
  intro k o ho hk e he hb
  by_cases hjk : j = k
  · subst hjk
    exact up _ (ready_preds hj o ho e he hb)
  · rw [getD_set_ne true hjk] at hk
    exact up _ (hcl k o ho hk e he hb)
/-- How a quiet step may be kept: it needs no memory, or all that breaks C comes behind it. -/
def Kept (md : Region.Mode) (ops : Array Oper) (S : List Nat) (C Ci : World → Prop) (i : Nat) : Prop :=
  (∀ w, Ci w) ∨ ((∀ w, C w → Ci w) ∧ ∀ s ∈ S, reachB md ops i ops.size s = true)
theorem wpAnyE_first {i : Nat} {oi : Oper} {v : Value} {Ci : World → Prop} (hi : ops[i]? = some oi) (hsel : ∀ (j : Nat) (o : Oper) cs b, ops[j]? = some o → o.op ≠ .select cs b)
    (hQ : ∀ c a w, Q (.panic c) (a.put oi.dst v) w → Q (.panic c) a w) (hiS : i ∉ S) (hK : Kept md ops S C Ci i) :
    ∀ (fuel : Nat) (listed : Array Bool) (a : Act) (w : World),
      (∀ j oj, ops[j]? = some oj → j ≠ i → listed.getD j true = false → (∀ e ∈ oj.after, Region.binds md e = true → e.on ≠ i) → oi.apart ops oj = true) →
      i ∈ Region.ready md ops listed → Closed md ops listed → YV P ops Ci oi v a → (unl S listed → C w) → ((∀ w, Ci w) ∨ unl S listed) →
      wpAnyE P md ops S C Q fuel (listed.setIfInBounds i true) (a.put oi.dst v) w → wpAnyE P md ops S C Q (fuel + 1) listed a w := by
  have hCi : ∀ (listed : Array Bool) (w : World), (unl S listed → C w) → ((∀ w, Ci w) ∨ unl S listed) → Ci w := by
    intro listed w h1 h2
    rcases h2 with h2 | h2
    · exact h2 w
    · rcases hK with hK | hK
      · exact hK w
      · exact hK.1 w (h1 h2)
  intro fuel
  induction fuel with
  | zero =>
    intro listed a w _ hr _ hy hC hU H
    refine ⟨hC, fun h => (by rw [h] at hr; cases hr), fun j hj => ?_⟩
    by_cases hji : j = i
    · subst hji; exact hy.wpOp hi (hCi _ _ hC hU) H
    · have := ready_mono hj hji
      rw [H.2.1] at this
      cases this
  | succ fuel ih =>
    intro listed a w hfree hr hcl hy hC hU H
    refine ⟨hC, fun h => (by rw [h] at hr; cases hr), fun j hj => ?_⟩
    by_cases hji : j = i
    · subst hji; exact hy.wpOp hi (hCi _ _ hC hU) H
    · have h1 := H.2.2 j (ready_mono hj hji)
      obtain ⟨hjun, oj, hoj, hall⟩ := mem_ready.1 hj
      have hnot : ∀ e ∈ oj.after, Region.binds md e = true → e.on ≠ i := fun e he hb heq => by
        have h1 := hall e he hb
        have h0 := (mem_ready.1 hr).1
        rw [heq] at h1
        rcases Nat.lt_or_ge i listed.size with h' | h'
        · simp [h'] at h0 h1; rw [h0] at h1; cases h1
        · simp [Array.getElem?_eq_none h'] at h1
      have hU' : (∀ w, Ci w) ∨ unl S (listed.setIfInBounds j true) := by
        rcases hK with hK | hK
        · exact .inl hK
        · rcases hU with hU | hU
          · exact .inl hU
          · refine .inr ((unl_set fun hjS => ?_).2 hU)
            have hil := reach_listed hcl _ j (hK.2 j hjS) (ready_preds hj)
            have h0 := (mem_ready.1 hr).1
            rw [hil] at h0
            cases h0
      have h2 := wpOp_putC hoj (hfree j oj hoj hji hjun hnot) (fun cs b => hsel i oi cs b hi) (fun cs b => hsel j oj cs b hoj) hQ hy h1
      have hfree' : ∀ k ok, ops[k]? = some ok → k ≠ i → (listed.setIfInBounds j true).getD k true = false →
          (∀ e ∈ ok.after, Region.binds md e = true → e.on ≠ i) → oi.apart ops ok = true := fun k ok hk hki hun hno => by
        refine hfree k ok hk hki ?_ hno
        by_cases hjk : j = k
        · subst hjk; exact hjun
        · rw [getD_set_ne true hjk] at hun; exact hun
      refine wpOp_mono (fun a' w' h3 => ih (listed.setIfInBounds j true) a' w' hfree' (ready_mono hr (Ne.symm hji)) (hcl.set hj) h3.1 ?_ hU' ?_) h2
      · have hc := h3.2.c
        rw [Array.setIfInBounds_comm _ _ (Ne.symm hji)] at hc
        intro hu
        exact hc ((unl_set hiS).2 hu)
      · rw [Array.setIfInBounds_comm _ _ hji]
        exact h3.2

/-- Orders: quiet steps (m: may they read memory?), steps that are the only ones, or several; at the end the stores of S. -/
inductive Ore where
  | nil
  | stop
  | q (m : Bool) (i : Nat) (r : Ore)
  | e (i : Nat) (r alt : Ore)
def Ore.alts : Ore → List Nat
  | .e i _ alt => i :: alt.alts
  | _ => []
def behind (md : Region.Mode) (ops : Array Oper) (i : Nat) (S : List Nat) : Bool := S.all fun s => reachB md ops i ops.size s
def notIn (i : Nat) (S : List Nat) : Bool := S.all fun s => !(Nat.beq s i)
theorem notIn_spec {i : Nat} (h : notIn i S = true) : i ∉ S := fun hi => by
  have := List.all_eq_true.1 h i hi
  simp at this
def ordS (md : Region.Mode) (ops : Array Oper) : List Nat → Array Bool → Bool
  | [], listed => (Region.ready md ops listed).isEmpty
  | s :: r, listed => Region.ready md ops listed == [s] && ordS md ops r (listed.setIfInBounds s true)
def ordE (md : Region.Mode) (ops : Array Oper) (S : List Nat) : Bool → Ore → Nat → Array Bool → Bool
  | top, .nil, k, listed => top && (Nat.beq k S.length && ordS md ops S listed)
  | top, .stop, _, _ => !top
  | top, .q m i r, k, listed => match k with
    | 0 => false
    | k + 1 => top && ((Region.ready md ops listed).contains i && (Region.free md ops listed i && (notIn i S && ((!m || behind md ops i S) && ordE md ops S true r k (listed.setIfInBounds i true)))))
  | top, .e i r alt, k, listed => match k with
    | 0 => false
    | k + 1 => (bif top then Region.ready md ops listed == i :: alt.alts else true) && (notIn i S && (ordE md ops S true r k (listed.setIfInBounds i true) && ordE md ops S false alt (k + 1) listed))
def wpS_ (P : Program) (ops : Array Oper) (Q : Exit → Act → World → Prop) : List Nat → Act → World → Prop
  | [], a, w => Q .normal a w
  | s :: r, a, w => wpOp P ops Q s (wpS_ P ops Q r) a w
def wpU (P : Program) (ops : Array Oper) (S : List Nat) (C : World → Prop) (Q : Exit → Act → World → Prop) : Ore → Act → World → Prop
  | .nil, a, w => C w ∧ wpS_ P ops Q S a w
  | .stop, _, _ => True
  | .q m i r, a, w => C w ∧ ∃ o v, ops[i]? = some o ∧ YV P ops (bif m then C else fun _ => True) o v a ∧ wpU P ops S C Q r (a.put o.dst v) w
  | .e i r alt, a, w => C w ∧ (wpOp P ops Q i (wpU P ops S C Q r) a w ∧ wpU P ops S C Q alt a w)
theorem wpS_any : ∀ (r : List Nat) (listed : Array Bool) (a : Act) (w : World), (r = S ∧ C w ∨ ¬ unl S listed) → (∀ s ∈ r, s ∈ S) → (∀ s ∈ r, listed.getD s true = false) → ordS md ops r listed = true → wpS_ P ops Q r a w → wpAnyE P md ops S C Q r.length listed a w
  | [], listed, a, w, hc, _, _, hB, h => ⟨fun hu => (by rcases hc with hc | hc; exact hc.2; exact absurd hu hc), by simpa [ordS] using hB, h⟩
  | s :: r, listed, a, w, hc, hsub, hun, hB, h => by
    simp only [ordS, Bool.and_eq_true, beq_iff_eq] at hB
    refine ⟨fun hu => (by rcases hc with hc | hc; exact hc.2; exact absurd hu hc), fun he => (by rw [he] at hB; cases hB.1), fun j hj => ?_⟩
    rw [hB.1] at hj
    simp at hj
    subst hj
    have hlt : j < listed.size := by
      have := hun j (by simp)
      rcases Nat.lt_or_ge j listed.size with h' | h'
      · exact h'
      · simp [Array.getElem?_eq_none h'] at this
    have hnot : ¬ unl S (listed.setIfInBounds j true) := fun hu => by
      have := hu j (hsub j (by simp))
      simp [Array.getD_eq_getD_getElem?, hlt] at this
    refine wpOp_mono (fun a' w' h' => wpS_any_aux r (listed.setIfInBounds j true) a' w' hnot (fun s hs => hsub s (by simp [hs])) hB.2 h') h
where
  wpS_any_aux : ∀ (r : List Nat) (listed : Array Bool) (a : Act) (w : World), ¬ unl S listed → (∀ s ∈ r, s ∈ S) → ordS md ops r listed = true → wpS_ P ops Q r a w → wpAnyE P md ops S C Q r.length listed a w
  | [], listed, a, w, hc, _, hB, h => ⟨fun hu => absurd hu hc, by simpa [ordS] using hB, h⟩
  | s :: r, listed, a, w, hc, hsub, hB, h => by
    simp only [ordS, Bool.and_eq_true, beq_iff_eq] at hB
    refine ⟨fun hu => absurd hu hc, fun he => (by rw [he] at hB; cases hB.1), fun j hj => ?_⟩
    rw [hB.1] at hj
    simp at hj
    subst hj
    refine wpOp_mono (fun a' w' h' => wpS_any_aux r (listed.setIfInBounds j true) a' w' (fun hu => hc fun s hs => ?_) (fun s hs => hsub s (by simp [hs])) hB.2 h') h
    have := hu s hs
    rcases Nat.decEq j s with hne | he
    · rwa [getD_set_ne true hne] at this
    · subst he
      rcases Nat.lt_or_ge j listed.size with h' | h'
      · simp [Array.getD_eq_getD_getElem?, h'] at this
      · simp [Array.getD_eq_getD_getElem?] at this
theorem wpU_any {ok : Option Tmp → Bool} (hok : allD ok ops = true) (hs : Region.noSelect ops = true) (hQ : ∀ c a w d v, ok d = true → Q (.panic c) (a.put d v) w → Q (.panic c) a w) : ∀ (o : Ore) (k : Nat) (listed : Array Bool) (a : Act) (w : World), unl S listed → Closed md ops listed →
    (ordE md ops S true o k listed = true → wpU P ops S C Q o a w → wpAnyE P md ops S C Q k listed a w) ∧
    ((∀ j ∈ o.alts, j ∈ Region.ready md ops listed) → ordE md ops S false o k listed = true → wpU P ops S C Q o a w → ∀ j ∈ o.alts, ∃ k', k = k' + 1 ∧ wpOp P ops Q j (wpAnyE P md ops S C Q k' (listed.setIfInBounds j true)) a w)
  | .nil, k, listed, a, w, hu, _ => by
    refine ⟨fun hB h => ?_, fun _ hB => by simp [ordE] at hB⟩
    simp only [ordE, Bool.true_and, Bool.and_eq_true] at hB
    obtain rfl := Nat.eq_of_beq_eq_true hB.1
    exact wpS_any S listed a w (.inl ⟨rfl, h.1⟩) (fun _ h => h) hu hB.2 h.2
  | .stop, k, listed, a, w, hu, _ => ⟨fun hB => by simp [ordE] at hB, fun _ _ _ j hj => by simp [Ore.alts] at hj⟩
  | .q m i r, k, listed, a, w, hu, hcl => by
    cases k with
    | zero => exact ⟨fun hB => by simp [ordE] at hB, fun _ hB => by simp [ordE] at hB⟩
    | succ k =>
      refine ⟨fun hB h => ?_, fun _ hB => by simp [ordE] at hB⟩
      simp only [ordE, Bool.true_and, Bool.and_eq_true] at hB
      obtain ⟨hB1, hB2, hB3, hB4, hB5⟩ := hB
      obtain ⟨hC, o, v, ho, hy, h⟩ := h
      have hiS := notIn_spec hB3
      have hK : Kept md ops S C (bif m then C else fun _ => True) i := by
        cases m with
        | false => exact .inl fun _ => trivial
        | true =>
          refine .inr ⟨fun _ h => h, fun s hs => ?_⟩
          simp only [Bool.not_true, Bool.false_or] at hB4
          exact List.all_eq_true.1 hB4 s hs
      have hir : i ∈ Region.ready md ops listed := by simpa using hB1
      exact wpAnyE_first ho (Region.noSelect_spec hs) (fun c a w => hQ c a w o.dst v (allD_get hok ho)) hiS hK k listed a w (Region.free_spec ho hB2) hir hcl hy (fun _ => hC) (.inr hu)
        ((wpU_any hok hs hQ r k _ _ _ ((unl_set hiS).2 hu) (hcl.set hir)).1 hB5 h)
  | .e i r alt, k, listed, a, w, hu, hcl => by
    cases k with
    | zero => exact ⟨fun hB => by simp [ordE] at hB, fun _ hB => by simp [ordE] at hB⟩
    | succ k =>
      have hsub : (∀ j ∈ i :: alt.alts, j ∈ Region.ready md ops listed) → notIn i S = true → ordE md ops S true r k (listed.setIfInBounds i true) = true → ordE md ops S false alt (k + 1) listed = true → wpU P ops S C Q (.e i r alt) a w →
          ∀ j ∈ i :: alt.alts, wpOp P ops Q j (wpAnyE P md ops S C Q k (listed.setIfInBounds j true)) a w := by
        intro hrd h0 h1 h2 h j hj
        rcases List.mem_cons.1 hj with rfl | hj
        · exact wpOp_mono (fun a' w' h' => (wpU_any hok hs hQ r k _ a' w' ((unl_set (notIn_spec h0)).2 hu) (hcl.set (hrd _ (by simp)))).1 h1 h') h.2.1
        · obtain ⟨k', hk, hx⟩ := (wpU_any hok hs hQ alt (k + 1) listed a w hu hcl).2 (fun j hj => hrd j (by simp [hj])) h2 h.2.2 j hj
          injection hk with hk
          subst hk
          exact hx
      refine ⟨fun hB h => ?_, fun hrd hB h j hj => ?_⟩
      · simp only [ordE, cond_true, Bool.and_eq_true, beq_iff_eq] at hB
        refine ⟨fun _ => h.1, fun he => (by rw [he] at hB; cases hB.1), fun j hj => ?_⟩
        rw [hB.1] at hj
        exact hsub (fun j hj => by rw [hB.1]; exact hj) hB.2.1 hB.2.2.1 hB.2.2.2 h j hj
      · simp only [ordE, cond_false, Bool.true_and, Bool.and_eq_true] at hB
        exact ⟨k, rfl, hsub hrd hB.1 hB.2.1 hB.2.2 h j hj⟩
variable {n : Nat} {ds : List Deferred} {l : List (Nat × Value)} {W : World → Prop}
def WU (P : Program) (ops : Array Oper) (S : List Nat) (C : World → Prop) (Q : Exit → Act → World → Prop) (n : Nat) (ds : List Deferred) (l : List (Nat × Value)) (W : World → Prop) (ord : Ore) : Prop :=
  ∀ a w, Ag n ds l a → W w → wpU P ops S C Q ord a w
def WS (P : Program) (ops : Array Oper) (Q : Exit → Act → World → Prop) (n : Nat) (ds : List Deferred) (l : List (Nat × Value)) (W : World → Prop) (S : List Nat) : Prop :=
  ∀ a w, Ag n ds l a → W w → wpS_ P ops Q S a w
def unlB (k : Nat) (S : List Nat) : Bool := S.all fun s => Nat.blt s k
theorem unl_start (h : unlB ops.size S = true) : unl S (Array.replicate ops.size false) := fun s hs => by
  have := List.all_eq_true.1 h s hs
  have hlt := Nat.blt_eq.mp this
  simp [Array.getD_eq_getD_getElem?, hlt]
theorem WC.drawU {id : Nat} {os : List Oper} {w0 : World} {F : List Nat} {L : List Asr} {Vs : List View} (ok : Option Tmp → Bool) (is : List Nat) (S : List Nat) (ord : Ore) (hm : P.follows .mixedOrders = true)
    (hB : (allD ok os.toArray && (Region.noSelect os.toArray && (unlB os.toArray.size S && ordE .any os.toArray S true ord os.toArray.size (Array.replicate os.toArray.size false)))) = true)
    (hQ : ∀ c a w d v, ok d = true → Q (.panic c) (a.put d v) w → Q (.panic c) a w) (h : WU P os.toArray S (Ws w0 F (outs is L) Vs) Q n ds l (Ws w0 F L Vs) ord) : WC P (.region id os.toArray true) Q n ds l (Ws w0 F L Vs) := by
  intro a w ha hw
  simp only [Bool.and_eq_true] at hB
  have := wpAny_of_E (md := .any) _ _ _ _ ((wpU_any hB.1 hB.2.1 hQ ord _ _ a w.drew (unl_start hB.2.2.1) (fun j o ho hj => by
    have hlt : j < os.length := by simpa using (Array.getElem?_eq_some_iff.1 ho).1
    simp [Array.getD_eq_getD_getElem?, Array.getElem?_replicate, hlt] at hj)).1 hB.2.2.2 (h a w.drew ha hw.drew))
  exact wp_region_any hm this
theorem WU.q {m : Bool} {r : Ore} {i d : Nat} {op : Op} {ty : TypeId} {pos : String} {af : Array Edge} {g : Option (Nat × Bool)} {v : Value} (hi : ops[i]? = some ⟨some d, op, ty, pos, af, g⟩) (hg : GOk ops l g) (hn : Nat.blt d n = true)
    (hC : ∀ w, W w → C w) (hy : Yl P l (bif m then C else fun _ => True) ⟨some d, op, ty, pos, af, g⟩ v) (h : WU P ops S C Q n ds ((d, v) :: l) W r) : WU P ops S C Q n ds l W (.q m i r) := by
  intro a w ha hw
  refine ⟨hC w hw, _, v, hi, .inl ⟨GOk.wanted (o := ⟨some d, op, ty, pos, af, g⟩) hg ha, fun w' hw' => hy a.eval w' (fun x u hx => ha.eval hx) hw'⟩, h _ _ (ha.put hn v) hw⟩
theorem WU.skip {r : Ore} {i d : Nat} {op : Op} {ty : TypeId} {pos : String} {af : Array Edge} {j : Nat} {b : Bool} {oj : Oper} {dj : Nat} (hi : ops[i]? = some ⟨some d, op, ty, pos, af, some (j, b)⟩) (hn : Nat.blt d n = true)
    (hj : ops[j]? = some oj) (hdj : oj.dst = some dj) (hnj : Nat.blt dj n = true) (hb : lk l dj = some (.bool (!b)))
    (hC : ∀ w, W w → C w) (h : WU P ops S C Q n ds ((d, undef) :: l) W r) : WU P ops S C Q n ds l W (.q false i r) := by
  intro a w ha hw
  have hv : a.tmps.getD dj undef = .bool (!b) := ha.vals dj _ hb
  have hlt : dj < a.tmps.size := by rw [ha.size]; exact Nat.le_of_ble_eq_true hnj
  have hget : a.tmps[dj]? = some (.bool (!b)) := by
    rw [Array.getD_eq_getD_getElem?, Array.getElem?_eq_getElem hlt] at hv
    rw [Array.getElem?_eq_getElem hlt]
    simpa using hv
  have hyd : yielded ops a.tmps j = some (!b) := by simp [yielded, hj, hdj, hget]
  exact ⟨hC w hw, _, undef, hi, .inr ⟨by simp [Region.wanted, hyd], rfl⟩, h _ _ (ha.put hn undef) hw⟩
theorem wpOp_of_list {i : Nat} {o : Oper} {K : Act → World → Prop} (hi : ops[i]? = some o) {a : Act} {w : World} (this : wpList P ops (Exit.then K Q) [o] a w) : wpOp P ops Q i K a w := by
  unfold wpList at this
  unfold wpOp
  simp only [hi]
  split
  · rename_i hw'
    rw [if_pos hw'] at this
    rcases this with this | ⟨h1, a2, w2, h2⟩
    · left
      unfold Oper.wp at this ⊢
      unfold Oper.upon at this ⊢
      split at this
      all_goals first
        | exact this
        | (refine this.mono fun e w' he => ?_
           cases e with
           | returned v => exact he
           | panicked ch => exact he
           | outgrown => obtain ⟨a3, w3, h3⟩ := he; exact ⟨a3, w3, h3⟩)
        | exact this.mono fun v w' he => he
    · exact .inr ⟨h1, a2, w2, h2⟩
  · rename_i hw'
    rw [if_neg hw'] at this
    exact this
theorem WU.e {r alt : Ore} {i : Nat} {o : Oper} (hi : ops[i]? = some o) (hC : ∀ w, W w → C w) (h : WL P ops (Exit.then (wpU P ops S C Q r) Q) n ds l W [o]) (h2 : WU P ops S C Q n ds l W alt) : WU P ops S C Q n ds l W (.e i r alt) :=
  fun a w ha hw => ⟨hC w hw, wpOp_of_list hi (h a w ha hw), h2 a w ha hw⟩
theorem WU.stop : WU P ops S C Q n ds l W .stop := fun _ _ _ _ => trivial
theorem WE.toU {r : Ore} (h : WU P ops S C Q n ds l W r) : WE (Exit.then (wpU P ops S C Q r) Q) .normal n ds l W := h
theorem WU.nil (hC : ∀ w, W w → C w) (h : WS P ops Q n ds l W S) : WU P ops S C Q n ds l W .nil := fun a w ha hw => ⟨hC w hw, h a w ha hw⟩
theorem WS.nil (h : WE Q .normal n ds l W) : WS P ops Q n ds l W [] := h
theorem WS.e {s : Nat} {r : List Nat} {o : Oper} (hi : ops[s]? = some o) (h : WL P ops (Exit.then (wpS_ P ops Q r) Q) n ds l W [o]) : WS P ops Q n ds l W (s :: r) :=
  fun a w ha hw => wpOp_of_list hi (h a w ha hw)
theorem WE.toS {r : List Nat} (h : WS P ops Q n ds l W r) : WE (Exit.then (wpS_ P ops Q r) Q) .normal n ds l W := h
end
end Go.Bw
