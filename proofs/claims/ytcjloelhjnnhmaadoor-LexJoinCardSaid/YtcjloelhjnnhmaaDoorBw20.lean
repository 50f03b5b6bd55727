/- Own base: rules that step through the code of a function, with what is known of its slots and of the memory kept as a list; no condition. -/
import Derived.Test.YtcjloelhjnnhmaaDoorBw19
import Derived.WalkKit
import Derived.ProofKit
import Derived.OpenShut
import Derived.ChangeOld
import Derived.Below
import Derived.Carry
import Derived.Deep.Slices
import Derived.Lib.SmallJoins
import Derived.JoinedCond
namespace Go.Bw
open Go Go.RowKit
open Go.ChangeShapes Go.WideShapes Go.ChangeAt Go.RowKit Go.Joins Go.Deep

/-! ### Rows: what is handed in, opened -/
theorem exists_list' {α : Type} (p : Nat → α → Prop) : ∀ n, (∀ i, i < n → ∃ x, p i x) → ∃ l : List α, l.length = n ∧ ∀ (i : Nat) (x : α), l[i]? = some x → p i x
  | 0, _ => ⟨[], rfl, by simp⟩
  | n + 1, h => by
    obtain ⟨l, hl, hp⟩ := exists_list' p n fun i hi => h i (by omega)
    obtain ⟨x, hx⟩ := h n (by omega)
    refine ⟨l ++ [x], by simp [hl], fun i y hy => ?_⟩
    rcases Nat.lt_trichotomy i n with h1 | h1 | h1
    · rw [List.getElem?_append_left (by omega)] at hy; exact hp i y hy
    · subst h1
      rw [List.getElem?_append_right (by omega), hl] at hy
      simp at hy; subst hy; exact hx
    · rw [List.getElem?_eq_none (by simp; omega)] at hy; cases hy
theorem vc_of_cell' {w : World} {b o : Nat} {v : Value} (h : w.cell? ⟨b, o, none⟩ = some v) : vc (hv w) b o = some v := by
  unfold vc hv
  unfold World.cell? at h
  cases hb : w.heap[b]? with
  | none => simp [hb] at h
  | some ob => cases ob <;> simp [hb, cellIn] at h ⊢ <;> exact h
/-- Flat shapes. -/
inductive Sh where
  | int
  | str
  | bool
deriving DecidableEq
def Sh.fit : Sh → Value → Prop
  | .int, v => ∃ k : Int, v = .int .i64 k ∧ -9223372036854775808 ≤ k ∧ k ≤ 9223372036854775807
  | .str, v => ∃ l : List UInt8, v = st l ∧ l.length ≤ 9223372036854775807
  | .bool, v => ∃ b, v = .bool b
def shP (P : Program) (t : TypeId) : Option Sh := match P.underlying t with
  | some (.int .i64) => some .int
  | some .string => some .str
  | some .bool => some .bool
  | _ => none
def inRow (P : Program) : Nat → List Field → Bool
  | _, [] => true
  | i, f :: r => Nat.beq f.offset i && (Nat.beq (P.cellsOf f.type) 1 && inRow P (i + 1) r)
def flatE (P : Program) (e : TypeId) : Option (List Sh) := match P.underlying e with
  | some (.struct fs) => bif inRow P 0 fs.toList && Nat.beq (P.cellsOf e) fs.size then fs.toList.mapM fun f => shP P f.type else none
  | _ => bif Nat.beq (P.cellsOf e) 1 then (shP P e).map ([·]) else none
section
variable {P : Program} {H : Type} {enc : TypeId × Value → H} {w : World} {base : Nat} {spare : Nat → Bool} {held : Bool}
theorem inRow_get : ∀ (i : Nat) (l : List Field) (j : Nat) (f : Field), inRow P i l = true → l[j]? = some f → f.offset = i + j ∧ P.cellsOf f.type = 1
  | _, [], j, f, _, h => by cases h
  | i, g :: r, 0, f, hr, h => by
    simp only [inRow, Bool.and_eq_true] at hr
    simp at h; subst h
    exact ⟨Nat.eq_of_beq_eq_true hr.1, Nat.eq_of_beq_eq_true hr.2.1⟩
  | i, g :: r, j + 1, f, hr, h => by
    simp only [inRow, Bool.and_eq_true] at hr
    have := inRow_get (i + 1) r j f hr.2.2 (by simpa using h)
    exact ⟨by omega, this.2⟩
theorem sh_trod {t : TypeId} {s : Sh} {fuel : Nat} {v : Value} {x : DataW H × List MemPlace} (hs : shP P t = some s) (h : DataW.trod enc P w base spare held fuel t [v] = some x) : s.fit v := by
  unfold shP at hs
  cases hu : P.underlying t with
  | none => simp [hu] at hs
  | some d =>
    cases d <;> simp [hu] at hs
    case int k =>
      cases k <;> simp at hs
      subst hs
      obtain ⟨n, e, _, hw⟩ := DataW.trod_int hu h
      injection e with e _
      subst e
      refine ⟨n, rfl, ?_⟩
      simp [Lit.wf, IntKind.min, IntKind.max, IntKind.signed, IntKind.bits] at hw
      omega
    case string =>
      subst hs
      obtain ⟨s, e, _, hw⟩ := DataW.trod_string hu h
      injection e with e _
      subst e
      exact ⟨s.data.toList, by simp [st], by unfold maxLen at hw; simpa using hw⟩
    case bool =>
      subst hs
      obtain ⟨b, e, _⟩ := DataW.trod_bool hu h
      injection e with e _
      exact ⟨b, e⟩
theorem fields_trod {t : TypeId} {fs : Array Field} {fuel : Nat} {cs : List Value} {x : DataW H × List MemPlace} (hu : P.underlying t = some (.struct fs)) (hr : (inRow P 0 fs.toList && Nat.beq (P.cellsOf t) fs.size) = true) (h : DataW.trod enc P w base spare held fuel t cs = some x) :
    cs.length = fs.size ∧ ∃ n, ∀ (j : Nat) (f : Field), fs[j]? = some f → ∃ v y, cs[j]? = some v ∧ DataW.trod enc P w base spare held n f.type [v] = some y := by
  simp only [Bool.and_eq_true] at hr
  obtain ⟨ys, n, _, _, hlen, hyl, hf⟩ := DataW.trod_struct hu h
  have hl : cs.length = fs.size := hlen.trans (Nat.eq_of_beq_eq_true hr.2)
  refine ⟨hl, n, fun j f hj => ?_⟩
  have hlt : j < fs.size := (Array.getElem?_eq_some_iff.1 hj).1
  obtain ⟨h1, h2⟩ := inRow_get 0 fs.toList j f hr.1 (by simpa using hj)
  have g := hf j f hj
  have e1 : cs[j]? = some cs[j] := List.getElem?_eq_getElem (by omega)
  have e2 : ys[j]? = some ys[j] := List.getElem?_eq_getElem (by omega)
  rw [h1, h2, Nat.zero_add, e2, List.drop_eq_getElem_cons (by omega)] at g
  exact ⟨_, _, e1, by simpa only [List.take_succ_cons, List.take_zero] using g⟩
theorem flat_trod {e : TypeId} {shs : List Sh} {fuel : Nat} {cs : List Value} {x : DataW H × List MemPlace} (hE : flatE P e = some shs) (h : DataW.trod enc P w base spare held fuel e cs = some x) :
    cs.length = shs.length ∧ ∀ (j : Nat) (s : Sh) (v : Value), shs[j]? = some s → cs[j]? = some v → s.fit v := by
  have single : ∀ {v : Value} {s : Sh}, cs = [v] → shs = [s] → shP P e = some s → cs.length = shs.length ∧ ∀ (j : Nat) (s : Sh) (v : Value), shs[j]? = some s → cs[j]? = some v → s.fit v := by
    intro v s h1 h2 h3
    subst h1 h2
    refine ⟨rfl, fun j s' v' hs' hv' => ?_⟩
    cases j with
    | zero => simp at hs' hv'; subst hs' hv'; exact sh_trod h3 h
    | succ j => simp at hs'
  unfold flatE at hE
  cases hu : P.underlying e with
  | none =>
    simp only [hu] at hE
    unfold shP at hE; simp [hu] at hE
  | some d =>
    cases d
    case struct fs =>
      simp only [hu] at hE
      cases hb : (inRow P 0 fs.toList && Nat.beq (P.cellsOf e) fs.size) with
      | false => rw [hb] at hE; cases hE
      | true =>
        rw [hb] at hE
        simp only [cond_true] at hE
        obtain ⟨hl, n, hf⟩ := fields_trod hu hb h
        have hm : ∀ (l : List Field) (out : List Sh), l.mapM (fun f => shP P f.type) = some out → out.length = l.length ∧ ∀ (j : Nat) (s : Sh), out[j]? = some s → ∃ f, l[j]? = some f ∧ shP P f.type = some s := by
          intro l
          induction l with
          | nil => intro out ho; simp at ho; subst ho; simp
          | cons f r ih =>
            intro out ho
            simp only [List.mapM_cons, Option.bind_eq_bind] at ho
            cases hs : shP P f.type with
            | none => simp [hs] at ho
            | some s =>
              cases hr : r.mapM (fun f => shP P f.type) with
              | none => simp [hs, hr] at ho
              | some ss =>
                simp [hs, hr] at ho
                subst ho
                obtain ⟨h1, h2⟩ := ih ss hr
                refine ⟨by simp [h1], fun j s' hs' => ?_⟩
                cases j with
                | zero => simp at hs'; subst hs'; exact ⟨f, rfl, hs⟩
                | succ j => exact h2 j s' (by simpa using hs')
        obtain ⟨h1, h2⟩ := hm _ _ hE
        refine ⟨by rw [hl, h1]; simp, fun j s v hs hv => ?_⟩
        obtain ⟨f, hfj, hsf⟩ := h2 j s hs
        obtain ⟨v', y, hv', ht⟩ := hf j f (by simpa using hfj)
        rw [hv] at hv'
        injection hv' with hv'
        subst hv'
        exact sh_trod hsf ht
    all_goals
      simp only [hu] at hE
      cases hb : Nat.beq (P.cellsOf e) 1 with
      | false => rw [hb] at hE; cases hE
      | true =>
        rw [hb] at hE
        cases hs : shP P e with
        | none => simp [hs] at hE
        | some s =>
          simp [hs] at hE
          unfold shP at hs
          simp only [hu] at hs
          first
            | (cases hs; done)
            | (obtain ⟨n, e1, _⟩ := DataW.trod_int hu h
               exact single e1 hE.symm (by unfold shP; simp only [hu]; exact hs))
            | (obtain ⟨n, e1, _⟩ := DataW.trod_string hu h
               exact single e1 hE.symm (by unfold shP; simp only [hu]; exact hs))
            | (obtain ⟨n, e1, _⟩ := DataW.trod_bool hu h
               exact single e1 hE.symm (by unfold shP; simp only [hu]; exact hs))
/-- A slice of flat things. -/
theorem open_sl {α : Type} {f : α → List Value} {rd : View → Nat → Nat → α → Prop} {ts e : TypeId} {shs : List Sh} {fuel k : Nat} {cs : List Value} {x : DataW H × List MemPlace} (hu : P.underlying ts = some (.slice e)) (hE : flatE P e = some shs) (hk : shs.length = k) (hc : P.cellsOf e = k)
    (hconv : ∀ cs' : List Value, cs'.length = k → (∀ (j : Nat) (s : Sh) (v : Value), shs[j]? = some s → cs'[j]? = some v → s.fit v) → ∃ y : α, cs' = f y) (hrd : ∀ H b o y, RdC H b o (f y) → rd H b o y)
    (h : DataW.trod enc P w base spare held fuel ts cs = some x) (hsp : ∀ a n c, cs = [.slice (some a) n c] → a.spot = none) :
    ∃ (a : Option Addr) (c : Nat) (xs : List α), cs = [.slice a xs.length c] ∧ Sl rd k (hv w) a c xs := by
  rcases Go.Deep.open_slice hu h with ⟨rfl, _⟩ | ⟨a, len, cap, m, n, D, Pl, rfl, hb, hl, hm, hmm, hx, hi⟩
  · exact ⟨none, 0, [], rfl, Sl.nil⟩
  · have hle : len ≤ m := by rw [hmm]; split <;> omega
    have hs := hsp a len cap rfl
    obtain ⟨b, o, s⟩ := a
    obtain rfl : s = none := hs
    obtain ⟨xs, hlen, hxs⟩ := exists_list' (fun i (y : α) => rd (hv w) b (o + i * k) y) len (fun i him => by
      obtain ⟨cs', hcs, ht'⟩ := hi i (by omega)
      rw [hc] at hcs
      obtain ⟨hl', hfit⟩ := flat_trod hE ht'
      rw [hk] at hl'
      obtain ⟨y, rfl⟩ := hconv cs' hl' hfit
      obtain ⟨_, _, hat⟩ := World.cells?_some hcs
      refine ⟨y, hrd _ _ _ _ fun j v hj => ?_⟩
      have hjk : j < k := by have := (List.getElem?_eq_some_iff.1 hj).1; omega
      have := hat j hjk
      rw [hj] at this
      rw [add_none, add_none] at this
      exact vc_of_cell' this)
    subst hlen
    exact ⟨_, cap, xs, rfl, by omega, by unfold maxLen at hm; omega, by simp, fun i y hy => ⟨b, o, rfl, hxs i y hy⟩⟩
theorem okWide_spot' {r : Reach} {t : TypeId} {ts : List TypeId} {cs : Array Value} {i : Nat} {e u : TypeId} {a : Addr} {n c : Nat} (ht : P.cellTypes P.depth t = some ts) (hi : i < ts.length) (hu : ts[i]? = some u) (he : P.underlying u = some (.slice e)) (h : Row.okWide P w r base t cs) (hv : cs[i]? = some (.slice (some a) n c)) : a.spot = none := by
  obtain ⟨ts', h1, _, h2⟩ := h
  rw [ht] at h1
  injection h1 with h1
  subst h1
  obtain ⟨u', hu', hok⟩ := h2 i _ hv
  rw [Nat.mod_eq_of_lt hi, hu] at hu'
  injection hu' with hu'
  subst hu'
  unfold Cell.okWide at hok
  simp only [he] at hok
  unfold Cell.ok at hok
  simp only [he] at hok
  exact hok.2.2.2.1
theorem okWide_agg' {r : Reach} {t : TypeId} {fs : Array Field} {v : Value} (hu : P.underlying t = some (.struct fs)) (h : Value.okWide P w r base t v) : ∃ cs, v = .agg cs ∧ Row.okWide P w r base t cs := by
  unfold Value.okWide at h
  simp only [hu] at h
  obtain ⟨cs', e, _, hr⟩ := h
  exact ⟨cs', e, hr⟩
theorem open_int {r : Reach} {b0 : Nat} {t : TypeId} {v : Value} {d : DataW H} {p : List MemPlace} (hu : P.underlying t = some (.int .i64)) (hval : Value.okWide P w r b0 t v) (h : DataW.Trod enc P w base spare held t v d p) :
    ∃ k : Int, v = .int .i64 k ∧ -9223372036854775808 ≤ k ∧ k ≤ 9223372036854775807 := by
  obtain ⟨n, rfl⟩ := okWide_int hu hval
  obtain ⟨fuel, h⟩ := h
  exact sh_trod (s := .int) (by simp [shP, hu]) h
theorem open_str {r : Reach} {b0 : Nat} {t : TypeId} {v : Value} {d : DataW H} {p : List MemPlace} (hu : P.underlying t = some .string) (hval : Value.okWide P w r b0 t v) (h : DataW.Trod enc P w base spare held t v d p) :
    ∃ l : List UInt8, v = st l ∧ l.length ≤ 9223372036854775807 := by
  obtain ⟨n, rfl⟩ := okWide_string hu hval
  obtain ⟨fuel, h⟩ := h
  exact sh_trod (s := .str) (by simp [shP, hu]) h
theorem open_bool {r : Reach} {b0 : Nat} {t : TypeId} {v : Value} {d : DataW H} {p : List MemPlace} (hu : P.underlying t = some .bool) (hval : Value.okWide P w r b0 t v) (h : DataW.Trod enc P w base spare held t v d p) : ∃ b, v = .bool b := by
  obtain ⟨n, rfl⟩ := okWide_bool hu hval
  exact ⟨n, rfl⟩
theorem open_slv {α : Type} {f : α → List Value} {rd : View → Nat → Nat → α → Prop} {r : Reach} {b0 : Nat} {ts e : TypeId} {shs : List Sh} {k : Nat} {v : Value} {d : DataW H} {p : List MemPlace} (hu : P.underlying ts = some (.slice e)) (hE : flatE P e = some shs) (hk : shs.length = k) (hc : P.cellsOf e = k)
    (hconv : ∀ cs' : List Value, cs'.length = k → (∀ (j : Nat) (s : Sh) (v : Value), shs[j]? = some s → cs'[j]? = some v → s.fit v) → ∃ y : α, cs' = f y) (hrd : ∀ H b o y, RdC H b o (f y) → rd H b o y)
    (hval : Value.okWide P w r b0 ts v) (h : DataW.Trod enc P w base spare held ts v d p) : ∃ (a : Option Addr) (c : Nat) (xs : List α), v = .slice a xs.length c ∧ Sl rd k (hv w) a c xs := by
  obtain ⟨a, m, c, rfl⟩ := okWide_slice hu hval
  obtain ⟨fuel, h⟩ := h
  have hsp : ∀ a' n' c', [Value.slice a m c] = [.slice (some a') n' c'] → a'.spot = none := by
    intro a' n' c' e
    injection e with e _
    injection e with e1 _ _
    subst e1
    simp only [Value.okWide, hu, Cell.okWide, Cell.ok] at hval
    exact hval.2.2.2.1
  obtain ⟨a2, c2, xs, e, hs⟩ := open_sl hu hE hk hc hconv hrd h hsp
  have e' : [Value.slice a m c] = [.slice a2 xs.length c2] := e
  injection e' with e' _
  exact ⟨a2, c2, xs, e', hs⟩
theorem open_stv {r : Reach} {b0 : Nat} {t : TypeId} {fs : Array Field} {v : Value} {d : DataW H} {p : List MemPlace} (hu : P.underlying t = some (.struct fs)) (hr : (inRow P 0 fs.toList && Nat.beq (P.cellsOf t) fs.size) = true) (hct : P.cellTypes P.depth t = some (fs.toList.map (·.type)))
    (hval : Value.okWide P w r b0 t v) (h : DataW.Trod enc P w base spare held t v d p) :
    ∃ cs : List Value, v = .agg cs.toArray ∧ cs.length = fs.size ∧ ∃ n, ∀ (j : Nat) (f : Field), fs[j]? = some f → ∃ u y, cs[j]? = some u ∧ DataW.trod enc P w base spare held n f.type [u] = some y ∧ ∀ e a m c, P.underlying f.type = some (.slice e) → [u] = [.slice (some a) m c] → a.spot = none := by
  obtain ⟨cs, rfl, hrow⟩ := okWide_agg' hu hval
  obtain ⟨fuel, h⟩ := h
  obtain ⟨hl, n, hf⟩ := fields_trod hu hr h
  refine ⟨cs.toList, by simp, hl, n, fun j f hj => ?_⟩
  obtain ⟨u, y, e1, e2⟩ := hf j f hj
  refine ⟨u, y, e1, e2, fun e a m c he hu' => ?_⟩
  injection hu' with hu' _
  subst hu'
  have hlt : j < fs.size := (Array.getElem?_eq_some_iff.1 hj).1
  exact okWide_spot' (i := j) hct (by simpa using hlt) (by simp [hj]) he hrow (by simpa [Value.cells] using e1)
end
end Go.Bw
