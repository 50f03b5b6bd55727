/- Own base: rules that step through the code of a function, with what is known of its slots and of the memory kept as a list; no condition. -/
import Derived.WalkKit
import Derived.Deep.Quiet
namespace Go.Bw
open Go Go.RowKit

/-! ### The frame: what the slots are known to hold -/
def lk : List (Nat × Value) → Nat → Option Value
  | [], _ => none
  | (k, v) :: r, n => bif Nat.beq k n then some v else lk r n

structure Ag (n : Nat) (ds : List Deferred) (l : List (Nat × Value)) (a : Act) : Prop where
  size : a.tmps.size = n
  defs : a.defers = ds
  vals : ∀ t v, lk l t = some v → a.tmps.getD t undef = v

def opv (l : List (Nat × Value)) : Operand → Option Value
  | .tmp t => lk l t
  | .const v => some v
  | .global g => some (.pointer (some ⟨g, 0, none⟩))
  | .func f => some (.func (.func f) #[] #[])

section
variable {n : Nat} {ds : List Deferred} {l : List (Nat × Value)} {a : Act}

theorem Ag.eval (h : Ag n ds l a) {x : Operand} {v : Value} (hx : opv l x = some v) : a.eval x = v := by
  cases x with
  | tmp t => exact h.vals t v hx
  | const u => simpa [opv, Act.eval] using hx
  | global g => simpa [opv, Act.eval] using hx
  | func f => simpa [opv, Act.eval] using hx

theorem Ag.put (h : Ag n ds l a) {d : Nat} (hd : Nat.blt d n = true) (v : Value) : Ag n ds ((d, v) :: l) (a.put (some d) v) := by
  have hd' : d < a.tmps.size := by rw [h.size]; exact Nat.le_of_ble_eq_true hd
  refine ⟨by simp [Act.put, h.size], h.defs, fun t u hu => ?_⟩
  simp only [lk] at hu
  by_cases e : d = t
  · subst e
    simp at hu
    subst hu
    simp [Act.put, Array.getD, hd']
  · have : Nat.beq d t = false := by
      cases hb : Nat.beq d t with
      | false => rfl
      | true => exact absurd (Nat.eq_of_beq_eq_true hb) e
    rw [this] at hu
    have := h.vals t u hu
    simp only [Act.put, Array.getD_eq_getD_getElem?] at *
    rw [Array.getElem?_setIfInBounds_ne e]
    exact this

theorem Ag.put_none (h : Ag n ds l a) (v : Value) : Ag n ds l (a.put none v) := h

/-- What is known may be forgotten, or said otherwise. -/
theorem Ag.sub (h : Ag n ds l a) {l' : List (Nat × Value)} (hs : ∀ p ∈ l', lk l p.1 = some p.2) : Ag n ds l' a := by
  refine ⟨h.size, h.defs, fun t v hv => ?_⟩
  suffices hm : (t, v) ∈ l' from h.vals t v (hs _ hm)
  induction l' with
  | nil => cases hv
  | cons p r ih =>
    obtain ⟨k, u⟩ := p
    simp only [lk] at hv
    cases hb : Nat.beq k t with
    | true =>
      rw [hb] at hv
      have := Nat.eq_of_beq_eq_true hb
      subst this
      simp at hv
      subst hv
      exact List.mem_cons_self
    | false =>
      rw [hb] at hv
      exact List.mem_cons_of_mem _ (ih (fun p hp => hs p (List.mem_cons_of_mem _ hp)) hv)
end

/-! ### Goals over what is known of frame and world -/
section
variable {P : Program} {ops : Array Oper} {Q : Exit → Act → World → Prop} {n : Nat} {ds : List Deferred} {l : List (Nat × Value)} {W : World → Prop}

def WL (P : Program) (ops : Array Oper) (Q : Exit → Act → World → Prop) (n : Nat) (ds : List Deferred) (l : List (Nat × Value)) (W : World → Prop) (rest : List Oper) : Prop :=
  ∀ a w, Ag n ds l a → W w → wpList P ops Q rest a w
def WC (P : Program) (c : Code) (Q : Exit → Act → World → Prop) (n : Nat) (ds : List Deferred) (l : List (Nat × Value)) (W : World → Prop) : Prop :=
  ∀ a w, Ag n ds l a → W w → c.wp P Q a w
/-- A point behind: Q's own question, at an exit. -/
def WE (Q : Exit → Act → World → Prop) (e : Exit) (n : Nat) (ds : List Deferred) (l : List (Nat × Value)) (W : World → Prop) : Prop :=
  ∀ a w, Ag n ds l a → W w → Q e a w

/-- An operation that yields a value and leaves the world alone. -/
def Yl (P : Program) (l : List (Nat × Value)) (W : World → Prop) (o : Oper) (v : Value) : Prop :=
  ∀ (ρ : Operand → Value) (w : World), (∀ x u, opv l x = some u → ρ x = u) → W w → (execOp ρ o).run P w = .ok (.value v) w

theorem WL.nil (h : WE Q .normal n ds l W) : WL P ops Q n ds l W [] := fun a w ha hw => h a w ha hw

/-- The operation's guard says yes. -/
def GOk (ops : Array Oper) (l : List (Nat × Value)) (g : Option (Nat × Bool)) : Prop :=
  g = none ∨ ∃ j b dj, g = some (j, b) ∧ (ops[j]?).bind (·.dst) = some dj ∧ lk l dj = some (.bool b)
theorem GOk.wanted {o : Oper} {a : Act} (h : GOk ops l o.guard) (ha : Ag n ds l a) : Region.wanted o (yielded ops a.tmps) = true := by
  rcases h with h | ⟨j, b, dj, hg, hj, hl⟩
  · simp [Region.wanted, h]
  · have hv := ha.vals dj _ hl
    rw [Array.getD_eq_getD_getElem?] at hv
    cases ht : a.tmps[dj]? with
    | none => simp [ht, undef] at hv
    | some u =>
      simp [ht] at hv
      subst hv
      simp [Region.wanted, hg, yielded, hj, ht]
theorem WL.step {rest : List Oper} {o : Oper} (hg : GOk ops l o.guard)
    (h : ∀ a w, Ag n ds l a → W w → ∀ K : Act → World → Prop, (∀ a w, wpList P ops Q rest a w → K a w) → o.wp P a w K Q) : WL P ops Q n ds l W (o :: rest) := by
  intro a w ha hw
  refine wpList_step fun K hK => ?_
  rw [if_pos (hg.wanted ha)]
  exact h a w ha hw K hK
theorem WL.val {rest : List Oper} {d : Nat} {op : Op} {ty : TypeId} {pos : String} {af : Array Edge} {v : Value} {g : Option (Nat × Bool)} (hg : GOk ops l g) (hn : Nat.blt d n = true)
    (hy : Yl P l W ⟨some d, op, ty, pos, af, g⟩ v) (h : WL P ops Q n ds ((d, v) :: l) W rest) : WL P ops Q n ds l W (⟨some d, op, ty, pos, af, g⟩ :: rest) := by
  refine WL.step hg fun a w ha hw K hK => ?_
  have := hy a.eval w (fun x u hx => ha.eval hx) hw
  simp only [Oper.wp, this, Oper.upon_value]
  exact hK _ _ (h _ _ (ha.put hn v) hw)
theorem WL.skip {rest : List Oper} {d : Nat} {op : Op} {ty : TypeId} {pos : String} {af : Array Edge} {j : Nat} {b : Bool} {oj : Oper} {dj : Nat} (hn : Nat.blt d n = true)
    (hj : ops[j]? = some oj) (hdj : oj.dst = some dj) (hnj : Nat.blt dj n = true) (hb : lk l dj = some (.bool (!b)))
    (h : WL P ops Q n ds ((d, undef) :: l) W rest) : WL P ops Q n ds l W (⟨some d, op, ty, pos, af, some (j, b)⟩ :: rest) := by
  intro a w ha hw
  refine wpList_step fun K hK => ?_
  have hv : a.tmps.getD dj undef = .bool (!b) := ha.vals dj _ hb
  have hlt : dj < a.tmps.size := by rw [ha.size]; exact Nat.le_of_ble_eq_true hnj
  have hget : a.tmps[dj]? = some (.bool (!b)) := by
    rw [Array.getD_eq_getD_getElem?, Array.getElem?_eq_getElem hlt] at hv
    rw [Array.getElem?_eq_getElem hlt]
    simpa using hv
  have hyd : yielded ops a.tmps j = some (!b) := by simp [yielded, hj, hdj, hget]
  rw [if_neg (by simp [Region.wanted, hyd])]
  exact hK _ _ (h _ _ (ha.put hn undef) hw)

theorem WL.sub {rest : List Oper} (l' : List (Nat × Value)) (hs : ∀ p ∈ l', lk l p.1 = some p.2) (h : WL P ops Q n ds l' W rest) : WL P ops Q n ds l W rest :=
  fun a w ha hw => h a w (ha.sub hs) hw
theorem WC.sub {c : Code} (l' : List (Nat × Value)) (hs : ∀ p ∈ l', lk l p.1 = some p.2) (h : WC P c Q n ds l' W) : WC P c Q n ds l W :=
  fun a w ha hw => h a w (ha.sub hs) hw
theorem WE.sub {e : Exit} (l' : List (Nat × Value)) (hs : ∀ p ∈ l', lk l p.1 = some p.2) (h : WE Q e n ds l' W) : WE Q e n ds l W :=
  fun a w ha hw => h a w (ha.sub hs) hw
theorem WL.world {rest : List Oper} {W' : World → Prop} (hW : ∀ w, W w → W' w) (h : WL P ops Q n ds l W' rest) : WL P ops Q n ds l W rest :=
  fun a w ha hw => h a w ha (hW w hw)
theorem WC.world {c : Code} {W' : World → Prop} (hW : ∀ w, W w → W' w) (h : WC P c Q n ds l W') : WC P c Q n ds l W :=
  fun a w ha hw => h a w ha (hW w hw)
theorem WE.world {e : Exit} {W' : World → Prop} (hW : ∀ w, W w → W' w) (h : WE Q e n ds l W') : WE Q e n ds l W :=
  fun a w ha hw => h a w ha (hW w hw)

theorem sn {l : List (Nat × Value)} : ∀ p ∈ ([] : List (Nat × Value)), lk l p.1 = some p.2 := by simp
theorem sc {l r : List (Nat × Value)} {k : Nat} {v : Value} (h : lk l k = some v) (hr : ∀ p ∈ r, lk l p.1 = some p.2) : ∀ p ∈ (k, v) :: r, lk l p.1 = some p.2 := by
  intro p hp
  rcases List.mem_cons.1 hp with rfl | hp
  · exact h
  · exact hr p hp

/-! ### Code -/
theorem WC.seq {x y : Code} (h : WC P x (Exit.then (y.wp P Q) Q) n ds l W) : WC P (.seq x y) Q n ds l W := fun a w ha hw => wp_seq (h a w ha hw)
theorem WC.skip (h : WE Q .normal n ds l W) : WC P .skip Q n ds l W := fun a w ha hw => wp_skip (h a w ha hw)
theorem WC.ret (h : WE Q .ret n ds l W) : WC P .ret Q n ds l W := fun a w ha hw => wp_ret (h a w ha hw)
theorem WC.exit {id : Nat} (h : WE Q (.exit id) n ds l W) : WC P (.exit id) Q n ds l W := fun a w ha hw => wp_exit (h a w ha hw)
theorem WC.block {id : Nat} {c : Code} (h : WC P c (Exit.inBlock id Q) n ds l W) : WC P (.block id c) Q n ds l W := fun a w ha hw => wp_block (h a w ha hw)
theorem WC.region {id : Nat} {o : List Oper} (h : WL P o.toArray Q n ds l W o) : WC P (.region id o.toArray false) Q n ds l W := fun a w ha hw => wp_region_lit (h a w ha hw)
theorem WC.cond {c : Operand} {x y : Code} {t : Bool} (hc : opv l c = some (.bool t)) (ht : t = true → WC P x Q n ds l W) (hf : t = false → WC P y Q n ds l W) : WC P (.cond c x y) Q n ds l W :=
  fun a w ha hw => wp_cond_split (ha.eval hc) (fun h => ht h a w ha hw) (fun h => hf h a w ha hw)
theorem WC.condt {c : Operand} {x y : Code} (hc : opv l c = some (.bool true)) (h : WC P x Q n ds l W) : WC P (.cond c x y) Q n ds l W :=
  fun a w ha hw => wp_cond_true (ha.eval hc) (h a w ha hw)
theorem WC.condf {c : Operand} {x y : Code} (hc : opv l c = some (.bool false)) (h : WC P y Q n ds l W) : WC P (.cond c x y) Q n ds l W :=
  fun a w ha hw => wp_cond_false (ha.eval hc) (h a w ha hw)

/-! ### Exits -/
theorem WE.then_normal {y : Code} {Q' : Exit → Act → World → Prop} (h : WC P y Q n ds l W) : WE (Exit.then (y.wp P Q) Q') .normal n ds l W := fun a w ha hw => h a w ha hw
theorem WE.thenK {K : Act → World → Prop} (h : ∀ a w, Ag n ds l a → W w → K a w) : WE (Exit.then K Q) .normal n ds l W := h
theorem WE.then_ret {K : Act → World → Prop} (h : WE Q .ret n ds l W) : WE (Exit.then K Q) .ret n ds l W := h
theorem WE.then_exit {K : Act → World → Prop} {id : Nat} (h : WE Q (.exit id) n ds l W) : WE (Exit.then K Q) (.exit id) n ds l W := h
theorem WE.block_normal {id : Nat} (h : WE Q .normal n ds l W) : WE (Exit.inBlock id Q) .normal n ds l W := h
theorem WE.block_ret {id : Nat} (h : WE Q .ret n ds l W) : WE (Exit.inBlock id Q) .ret n ds l W := h
theorem WE.block_hit {id : Nat} (h : WE Q .normal n ds l W) : WE (Exit.inBlock id Q) (.exit id) n ds l W := fun a w ha hw => by
  simp only [Exit.inBlock, if_true]; exact h a w ha hw
theorem WE.block_miss {id id' : Nat} (hne : Nat.beq id' id = false) (h : WE Q (.exit id') n ds l W) : WE (Exit.inBlock id Q) (.exit id') n ds l W := fun a w ha hw => by
  have : id' ≠ id := fun e => by subst e; rw [Nat.beq_refl] at hne; cases hne
  simp only [Exit.inBlock, if_neg this]; exact h a w ha hw

/-! ### Entering a function, leaving it -/
def env0 : Nat → List Value → List (Nat × Value)
  | _, [] => []
  | i, v :: r => (i, v) :: env0 (i + 1) r
theorem lk_env0 (vs : List Value) : ∀ (i t : Nat) (v : Value), lk (env0 i vs) t = some v → i ≤ t ∧ vs[t - i]? = some v := by
  induction vs with
  | nil => intro i t v h; cases h
  | cons x r ih =>
    intro i t v h
    simp only [env0, lk] at h
    cases hb : Nat.beq i t with
    | true =>
      rw [hb] at h
      have := Nat.eq_of_beq_eq_true hb
      subst this
      simp at h
      simp [h]
    | false =>
      rw [hb] at h
      obtain ⟨h1, h2⟩ := ih (i + 1) t v h
      refine ⟨by omega, ?_⟩
      have : t - i = (t - (i + 1)) + 1 := by omega
      rw [this]
      simpa using h2
theorem enter {f : FuncId} {fn : Func} {c : Code} {vs : List Value} {w : World} {R : Ending → World → Prop} (hf : P.funcs[f]? = some fn) (hb : fn.body = some c)
    (m : Nat) (hm : fn.ntmps = m) (hle : Nat.ble vs.length m = true) (h : WC P c (bodyPost P fn R) m [] (env0 0 vs) (fun w' => w' = w)) : Calls P f vs.toArray w R := by
  refine calls_of_wp hf hb (h _ _ ?_ rfl)
  have hle' := Nat.le_of_ble_eq_true hle
  subst hm
  refine ⟨by simp; omega, rfl, fun t v hv => ?_⟩
  obtain ⟨_, h2⟩ := lk_env0 vs 0 t v hv
  simp only [Nat.sub_zero] at h2
  have hlt : t < vs.length := by
    rcases Nat.lt_or_ge t vs.length with h | h
    · exact h
    · simp [List.getElem?_eq_none h] at h2
  simp [Array.getD_eq_getD_getElem?, Array.getElem?_append, hlt]
  simp [List.getElem?_eq_getElem hlt] at h2
  exact h2
theorem WE.ret0 {fn : Func} {R : Ending → World → Prop} (hr : fn.results = #[]) (h : ∀ w, W w → R (.returned (.tuple #[])) w) : WE (bodyPost P fn R) .ret n [] l W :=
  fun a w ha hw => bodyPost_ret (results_none hr _ _ _) ha.defs (h w hw)
theorem WE.end0 {fn : Func} {R : Ending → World → Prop} (hr : fn.results = #[]) (h : ∀ w, W w → R (.returned (.tuple #[])) w) : WE (bodyPost P fn R) .normal n [] l W :=
  fun a w ha hw => bodyPost_end (results_none hr _ _ _) ha.defs (h w hw)
theorem WE.ret1 {fn : Func} {R : Ending → World → Prop} {t : Nat} {v : Value} (hr : fn.results = #[.tmp t]) (ht : lk l t = some v) (h : ∀ w, W w → R (.returned v) w) : WE (bodyPost P fn R) .ret n [] l W :=
  fun a w ha hw => bodyPost_ret (results_tmp hr _ _ _) ha.defs (by rw [ha.vals t v ht]; exact h w hw)
theorem WE.ret2 {fn : Func} {R : Ending → World → Prop} {t u : Nat} {v x : Value} (hr : fn.results = #[.tmp t, .tmp u]) (ht : lk l t = some v) (hu : lk l u = some x) (h : ∀ w, W w → R (.returned (.tuple #[v, x])) w) : WE (bodyPost P fn R) .ret n [] l W :=
  fun a w ha hw => bodyPost_ret (results_tmp2 hr _ _ _) ha.defs (by rw [ha.vals t v ht, ha.vals u x hu]; exact h w hw)
theorem results_tmp3' {fn : Func} {t u s : Tmp} (h : fn.results = #[.tmp t, .tmp u, .tmp s]) (tmps : Array Value) (P : Program) (w : World) :
    (results fn tmps).run P w = .ok (.tuple #[tmps.getD t undef, tmps.getD u undef, tmps.getD s undef]) w := by
  simp [results, h]
theorem WE.ret3 {fn : Func} {R : Ending → World → Prop} {t u s : Nat} {v x y : Value} (hr : fn.results = #[.tmp t, .tmp u, .tmp s]) (ht : lk l t = some v) (hu : lk l u = some x) (hs : lk l s = some y) (h : ∀ w, W w → R (.returned (.tuple #[v, x, y])) w) : WE (bodyPost P fn R) .ret n [] l W :=
  fun a w ha hw => bodyPost_ret (results_tmp3' hr _ _ _) ha.defs (by rw [ha.vals t v ht, ha.vals u x hu, ha.vals s y hs]; exact h w hw)
theorem WE.panics {fn : Func} {R : Ending → World → Prop} {ch : List PanicEntry} (h : ∀ w, W w → R (.panicked ch) w) : WE (bodyPost P fn R) (.panic ch) n [] l W :=
  fun a w ha hw => ⟨ha.defs, h w hw⟩
theorem WE.then_panic {K : Act → World → Prop} {ch : List PanicEntry} (h : WE Q (.panic ch) n ds l W) : WE (Exit.then K Q) (.panic ch) n ds l W := h
theorem WE.block_panic {id : Nat} {ch : List PanicEntry} (h : WE Q (.panic ch) n ds l W) : WE (Exit.inBlock id Q) (.panic ch) n ds l W := h

/-! ### A loop, with a ghost -/
theorem least_of {p : Nat → Prop} : ∀ m, p m → ∃ k, p k ∧ ∀ j, p j → k ≤ j := by
  intro m
  induction m using Nat.strongRecOn with
  | _ m ih =>
    intro hm
    by_cases h : ∃ j, j < m ∧ p j
    · obtain ⟨j, hj, hp⟩ := h
      exact ih j hj hp
    · exact ⟨m, hm, fun j hp => Nat.le_of_not_lt fun hlt => h ⟨j, hlt, hp⟩⟩
theorem wp_loop_ghost {ι : Type} {c : Code} {a : Act} {w : World} (I : ι → Act → World → Prop) (μ : ι → Nat) (i0 : ι) (h0 : I i0 a w)
    (round : ∀ i a w, I i a w → c.wp P (Exit.then (fun a' w' => ∃ j, μ j < μ i ∧ I j a' w') Q) a w) : (Code.loop c).wp P Q a w := by
  classical
  let J : Act → World → Prop := fun a w => ∃ i, I i a w
  have ex : ∀ a w, J a w → ∃ k, (∃ i, I i a w ∧ μ i = k) ∧ ∀ j, (∃ i, I i a w ∧ μ i = j) → k ≤ j := by
    rintro a w ⟨i, hi⟩
    exact least_of (μ i) ⟨i, hi, rfl⟩
  let M : Act → World → Nat := fun a w => if h : J a w then Classical.choose (ex a w h) else 0
  have hM : ∀ a w, J a w → ∃ i, I i a w ∧ μ i = M a w := by
    intro a w h
    have := (Classical.choose_spec (ex a w h)).1
    simp only [M, dif_pos h]
    exact this
  have hle : ∀ a w i, I i a w → M a w ≤ μ i := by
    intro a w i hi
    have h : J a w := ⟨i, hi⟩
    simp only [M, dif_pos h]
    exact (Classical.choose_spec (ex a w h)).2 _ ⟨i, hi, rfl⟩
  refine wp_loop J M ⟨i0, h0⟩ fun a w hJ => ?_
  obtain ⟨i, hi, hmi⟩ := hM a w hJ
  refine wp_mono (round i a w hi) fun e a' w' hq => ?_
  cases e with
  | normal =>
    obtain ⟨j, hj, hI⟩ := hq
    exact ⟨⟨j, hI⟩, by have := hle a' w' j hI; omega⟩
  | _ => exact hq
theorem WC.loop {ι : Type} {c : Code} (E : ι → List (Nat × Value)) (Wi : ι → World → Prop) (R : ι → Prop) (μ : ι → Nat) (i0 : ι) (hR : R i0) (hE : ∀ p ∈ E i0, lk l p.1 = some p.2) (hW : ∀ w, W w → Wi i0 w)
    (round : ∀ i, R i → WC P c (Exit.then (fun a' w' => ∃ j, μ j < μ i ∧ R j ∧ Ag n ds (E j) a' ∧ Wi j w') Q) n ds (E i) (Wi i)) : WC P (.loop c) Q n ds l W := by
  intro a w ha hw
  refine wp_loop_ghost (fun i a w => R i ∧ Ag n ds (E i) a ∧ Wi i w) μ i0 ⟨hR, ha.sub hE, hW w hw⟩ fun i a w hI => ?_
  exact round i hI.1 a w hI.2.1 hI.2.2
theorem WE.again {ι : Type} {E : ι → List (Nat × Value)} {Wi : ι → World → Prop} {R : ι → Prop} {μ : ι → Nat} {i : ι} (j : ι) (hμ : μ j < μ i) (hR : R j) (hE : ∀ p ∈ E j, lk l p.1 = some p.2) (hW : ∀ w, W w → Wi j w) :
    WE (Exit.then (fun a' w' => ∃ j, μ j < μ i ∧ R j ∧ Ag n ds (E j) a' ∧ Wi j w') Q) .normal n ds l W := fun a w ha hw => ⟨j, hμ, hR, ha.sub hE, hW w hw⟩
end
end Go.Bw
