/- Own base: rules that step through the code of a function, with what is known of its slots and of the memory kept as a list; no condition. -/
import Derived.Test.YtcjloelhjnnhmaaDoorBw18
namespace Go.Bw
open Go Go.RowKit

/-! ### Regions that draw, in functions that defer: a panic may come before what only reads -/
/-- These slots are no results. -/
def noRes (rs : List ResultVar) (d : Option Tmp) : Bool := match d with
  | none => true
  | some d => rs.all fun r => match r with | .tmp t => !(Nat.beq d t) | .cell a _ => !(Nat.beq d a)
theorem rvS_put {r : ResultVar} {d : Nat} {v : Value} {a : Act} (h : (match r with | .tmp t => !(Nat.beq d t) | .cell a _ => !(Nat.beq d a)) = true) : rvS (a.put (some d) v).tmps r = rvS a.tmps r := by
  have key : ∀ t, (!(Nat.beq d t)) = true → (a.put (some d) v).tmps.getD t undef = a.tmps.getD t undef := fun t ht => by
    have hne : d ≠ t := fun e => by subst e; simp at ht
    simp only [Act.put, Array.getD_eq_getD_getElem?]
    rw [Array.getElem?_setIfInBounds_ne hne]
  cases r with
  | tmp t => simp only [rvS, key t h]
  | cell x _ => simp only [rvS, key x h]
theorem results_put {fn : Func} {rs : List ResultVar} (hr : fn.results = rs.toArray) {d : Option Tmp} {v : Value} {a : Act} (h : noRes rs d = true) : results fn (a.put d v).tmps = results fn a.tmps := by
  cases d with
  | none => rfl
  | some d =>
    simp only [noRes, List.all_eq_true] at h
    have e : ∀ l : List ResultVar, (∀ r ∈ l, r ∈ rs) → l.mapM (rvS (a.put (some d) v).tmps) = l.mapM (rvS a.tmps) := by
      intro l
      induction l with
      | nil => intro _; rfl
      | cons x l ih =>
        intro hl
        rw [List.mapM_cons, List.mapM_cons, rvS_put (h x (hl x (by simp))), ih fun r hr => hl r (by simp [hr])]
    rw [results_eq, results_eq, hr, Array.mapM_eq_mapM_toList, Array.mapM_eq_mapM_toList, e _ fun r hr => by simpa using hr]
theorem leaves_put {P : Program} {fn : Func} {rs : List ResultVar} {R : Ending → World → Prop} (hr : fn.results = rs.toArray) {d : Option Tmp} {v : Value} {a : Act} (h : noRes rs d = true) : ∀ (ds : List Deferred) (u : FrameMode) (w : World), Leaves P fn (a.put d v).tmps R ds u w → Leaves P fn a.tmps R ds u w
  | [], .returning, w, hl => by
    simp only [Leaves] at hl ⊢
    rw [results_put hr h] at hl
    exact hl
  | [], .panicking _, _, hl => hl
  | [], .run, _, hl => hl
  | x :: ds, u, w, hl => by
    obtain ⟨h1, fv, cap, f, args, h2, h3, h4⟩ := hl
    refine ⟨h1, fv, cap, f, args, h2, h3, h4.mono fun e u' w' he => ?_⟩
    cases e with
    | returned v => exact leaves_put hr h ds _ _ he
    | panicked ch => exact leaves_put hr h ds _ _ he
    | outgrown => exact he
theorem bodyD_put {P : Program} {fn : Func} (rs : List ResultVar) {R : Ending → World → Prop} (hr : fn.results = rs.toArray) {d : Option Tmp} {v : Value} {a : Act} {c : List PanicEntry} {w : World} (h : noRes rs d = true) (hl : bodyPostD P fn R (.panic c) (a.put d v) w) : bodyPostD P fn R (.panic c) a w := by
  have e : (a.put d v).defers = a.defers := by cases d <;> rfl
  have hl : Leaves P fn (a.put d v).tmps R (a.put d v).defers (.panicking c) w := hl
  rw [e] at hl
  exact leaves_put hr h _ _ _ hl
section
variable {P : Program} {md : Region.Mode} {ops : Array Oper} {C : World → Prop} {Q : Exit → Act → World → Prop}
def allD (ok : Option Tmp → Bool) (ops : Array Oper) : Bool := ops.toList.all fun o => ok o.dst
theorem allD_get {ok : Option Tmp → Bool} (h : allD ok ops = true) {i : Nat} {o : Oper} (ho : ops[i]? = some o) : ok o.dst = true := by
  refine List.all_eq_true.1 h o ?_
  have : ops.toList[i]? = some o := by simpa using ho
  exact List.mem_of_getElem? this
theorem wpAnyC_ordK {ok : Option Tmp → Bool} (hok : allD ok ops = true) (hs : Region.noSelect ops = true) (hQ : ∀ c a w d v, ok d = true → Q (.panic c) (a.put d v) w → Q (.panic c) a w) : ∀ (ord : List (Nat × Bool)) (listed : Array Bool) (a : Act) (w : World),
    ordB md ops ord listed = true → wpC P ops C Q ord a w → wpAnyC P md ops C Q ord.length listed a w
  | [], listed, a, w, hB, h => ⟨h.1, by simpa [ordB] using hB, h.2⟩
  | (i, true) :: r, listed, a, w, hB, h => by
    simp only [ordB, cond_true, Bool.and_eq_true] at hB
    obtain ⟨hC, o, v, ho, hy, h⟩ := h
    exact wpAnyC_first ho (Region.noSelect_spec hs) (fun c a w => hQ c a w o.dst v (allD_get hok ho)) r.length listed a w (Region.free_spec ho hB.1.2) (by simpa using hB.1.1) hy hC
      (wpAnyC_ordK hok hs hQ r _ _ _ hB.2 h)
  | (i, false) :: r, listed, a, w, hB, h => by
    simp only [ordB, cond_false, Bool.and_eq_true, beq_iff_eq] at hB
    refine ⟨h.1, fun he => (by rw [he] at hB; cases hB.1), fun j hj => ?_⟩
    rw [hB.1] at hj
    simp at hj
    subst hj
    exact wpOp_mono (fun a' w' h' => wpAnyC_ordK hok hs hQ r _ _ _ hB.2 h') h.2
variable {n : Nat} {ds : List Deferred} {l : List (Nat × Value)} {W : World → Prop}
/-- Several things are taken out. -/
def outs : List Nat → List Asr → List Asr
  | [], L => L
  | i :: r, L => outs r (outOf i L)
theorem WC.drawsK {id : Nat} {os : List Oper} {w0 : World} {F : List Nat} {L : List Asr} {Vs : List View} (ok : Option Tmp → Bool) (is : List Nat) (ord : List (Nat × Bool)) (hm : P.follows .mixedOrders = true) (hok : allD ok os.toArray = true) (hB : (Region.noSelect os.toArray && (ord.length == os.toArray.size && ordB .any os.toArray ord (Array.replicate os.toArray.size false))) = true)
    (hQ : ∀ c a w d v, ok d = true → Q (.panic c) (a.put d v) w → Q (.panic c) a w) (h : WD P os.toArray (Ws w0 F (outs is L) Vs) Q n ds l (Ws w0 F L Vs) ord) : WC P (.region id os.toArray true) Q n ds l (Ws w0 F L Vs) := by
  intro a w ha hw
  simp only [Bool.and_eq_true, beq_iff_eq] at hB
  have := wpAny_of_C (md := .any) _ _ _ _ (wpAnyC_ordK hok hB.1 hQ ord _ a w.drew hB.2.2 (h a w.drew ha hw.drew))
  rw [hB.2.1] at this
  exact wp_region_any hm this
theorem WD.skip {r : List (Nat × Bool)} {i d : Nat} {op : Op} {ty : TypeId} {pos : String} {af : Array Edge} {j : Nat} {b : Bool} {oj : Oper} {dj : Nat} (hi : ops[i]? = some ⟨some d, op, ty, pos, af, some (j, b)⟩) (hn : Nat.blt d n = true)
    (hj : ops[j]? = some oj) (hdj : oj.dst = some dj) (hnj : Nat.blt dj n = true) (hb : lk l dj = some (.bool (!b)))
    (hC : ∀ w, W w → C w) (h : WD P ops C Q n ds ((d, undef) :: l) W r) : WD P ops C Q n ds l W ((i, true) :: r) := by
  intro a w ha hw
  have hv : a.tmps.getD dj undef = .bool (!b) := ha.vals dj _ hb
  have hlt : dj < a.tmps.size := by rw [ha.size]; exact Nat.le_of_ble_eq_true hnj
  have hget : a.tmps[dj]? = some (.bool (!b)) := by
    rw [Array.getD_eq_getD_getElem?, Array.getElem?_eq_getElem hlt] at hv
    rw [Array.getElem?_eq_getElem hlt]
    simpa using hv
  have hyd : yielded ops a.tmps j = some (!b) := by simp [yielded, hj, hdj, hget]
  exact ⟨hC w hw, _, undef, hi, .inr ⟨by simp [Region.wanted, hyd], rfl⟩, h _ _ (ha.put hn undef) hw⟩
theorem WE.front {w0 : World} {F : List Nat} {L : List Asr} {Vs : List View} {e : Exit} {A : Asr} (i : Nat) (hL : L[i]? = some A) (h : WE Q e n ds l (Ws w0 F (A :: outOf i L) Vs)) : WE Q e n ds l (Ws w0 F L Vs) :=
  WE.world (fun _ hw => hw.perm (outOf_perm i L hL)) h
/-- A deferred call turns own things in front. -/
theorem closW {w0 : World} {F : List Nat} {L : List Asr} {Vs : List View} {f : FuncId} {args : Array Value} {u u' : FrameMode} (L1 L2 L1' : List Asr) (hL : L = L1 ++ L2)
    (hC : ∀ w, Ws w (L1.flatMap Asr.ids) L1 [] w → CallsD P f args u w fun e u2 w' => u2 = u' ∧ (e = .returned (.tuple #[]) ∧ Ws w (L1.flatMap Asr.ids) L1' [] w')) :
    ∀ w, Ws w0 F L Vs w → CallsD P f args u w fun e u2 w' => e = .returned (.tuple #[]) ∧ u2 = u' ∧ Ws w0 F (L1' ++ L2) Vs w' := by
  intro w hw
  subst hL
  exact (hC w (hw.self.drops (by simp))).mono fun e u2 w' ⟨h1, h2, h3⟩ => ⟨h2, h1, hw.back h3⟩
end
end Go.Bw
