/- Own base: rules that step through the code of a function, with what is known of its slots and of the memory kept as a list; no condition. -/
import Derived.Test.YtcjloelhjnnhmaaDoorBw17
namespace Go.Bw
open Go Go.RowKit

/-! ### Own rows of things -/
/-- An own growing row of things of k cells. -/
abbrev osT {α : Type} (e : TypeId) (k : Nat) (f : α → List Value) (a : Option Addr) (c : Nat) (xs : List α) : Asr := osl e k (.slice a xs.length c) xs.length (xs.flatMap f)
section
variable {P : Program} {ops : Array Oper} {Q : Exit → Act → World → Prop} {n : Nat} {ds : List Deferred} {l : List (Nat × Value)} {w0 : World} {F : List Nat} {L : List Asr} {Vs : List View}
  {rest : List Oper} {d : Nat} {ty : TypeId} {pos : String} {af : Array Edge} {g : Option (Nat × Bool)}
/-- One more thing behind. -/
theorem WL.appT {α : Type} {f : α → List Value} {t e : TypeId} {z : Value} {size bytes cc : Nat} {s y : Operand} {a : Option Addr} {c bb : Nat} {xs : List α} {T : TypeId} {fz : Nat × Nat} (x : α) (i j : Nat) (hg : GOk ops l g) (hn : Nat.blt d n = true) (hE : EltOk P t e z size bytes)
    (hs : opv l s = some (.slice a xs.length c)) (hy : opv l y = some (.slice (some ⟨bb, 0, none⟩) 1 cc)) (hL : L[i]? = some (osT e size f a c xs)) (hB : L[j]? = some (blk bb (.cells (f x).toArray T fz)))
    (hl : (f x).length = size) (h1 : (f x).all (·.oneCell') = true) (h63 : xs.length + 1 ≤ 9223372036854775807) (hby : (xs.length + 1) * bytes ≤ 140737488355328)
    (h : ∀ a' c', WL P ops Q n ds ((d, .slice a' (xs ++ [x]).length c') :: l) (Ws w0 F (L.set i (osT e size f a' c' (xs ++ [x]))) Vs) rest) :
    WL P ops Q n ds l (Ws w0 F L Vs) (⟨some d, .call ⟨.builtin .append, #[s, y], #[t, t]⟩, ty, pos, af, g⟩ :: rest) := by
  refine WL.append i hg hn hE hs hy hL (news := f x) (k := 1) (by rw [Nat.one_mul]; exact hl) (fun w hw k u hu => blk_cells hw j hB (k := k) (by simpa using hu)) (fun u hu => List.all_eq_true.1 h1 u hu) (by unfold maxLen; omega) hby fun v' _ => ?_
  have e1 : (xs.flatMap f) ++ f x = (xs ++ [x]).flatMap f := by simp
  have e2 : xs.length + 1 = (xs ++ [x]).length := by simp
  rw [e1, e2]
  have hi : i < L.length := (List.getElem?_eq_some_iff.1 hL).1
  refine WL.slcm i (m := (xs ++ [x]).length) (xs := (xs ++ [x]).flatMap f) (e := e) (size := size) (v := v') (by simp [hi]) fun a' c' hv => ?_
  subst hv
  exact h a' c'
end
theorem Ws.slT {α : Type} {rd : View → Nat → Nat → α → Prop} {f : α → List Value} {k : Nat} {w0 w : World} {L : List Asr} {Vs : List View} (h : Ws w0 [] L Vs w) (i : Nat) {a : Option Addr} {c : Nat} {e : TypeId} {xs : List α} (hL : L[i]? = some (osT e k f a c xs))
    (hf : ∀ x, (f x).length = k) (hrd : ∀ H b o x, RdC H b o (f x) → rd H b o x) : Sl rd k (nv w0 w) a c xs := by
  rcases h.nvs i hL with ⟨h1, h2⟩ | ⟨b, c', h1, h2, h3, h4⟩
  · injection h1 with ha hl hc
    subst ha hc
    have : xs = [] := List.eq_nil_of_length_eq_zero (by omega)
    subst this
    exact Sl.nil
  · injection h1 with ha hl hc
    subst ha hc
    refine ⟨h2, by unfold maxLen at h3; omega, by simp, fun i x hx => ⟨b, 0, rfl, hrd _ _ _ _ fun j v hv => ?_⟩⟩
    have hj : j < k := by have := (List.getElem?_eq_some_iff.1 hv).1; rw [hf] at this; exact this
    rw [Nat.zero_add]
    exact h4 _ _ (by rw [flat_get hf hx hj]; exact hv)
theorem Ws.slTh {α : Type} {rd : View → Nat → Nat → α → Prop} {f : α → List Value} {k : Nat} {w0 w : World} {F : List Nat} {L : List Asr} {Vs : List View} (h : Ws w0 F L Vs w) (i : Nat) {a : Option Addr} {c : Nat} {e : TypeId} {xs : List α} (hL : L[i]? = some (osT e k f a c xs))
    (hf : ∀ x, (f x).length = k) (hrd : ∀ H b o x, RdC H b o (f x) → rd H b o x) : Sl rd k (hv w) a c xs := by
  obtain ⟨h1, h2⟩ := (h.kn _ (mem_of_idx hL) : w.ownsRow 0 e k _ xs.length (xs.flatMap f))
  rcases h2 with ⟨h3, h4⟩ | ⟨b, cap, cur, h5, _, hb, hmc, hc, hs, ht⟩
  · injection h3 with ha hl hc
    subst ha hc
    have : xs = [] := List.eq_nil_of_length_eq_zero (by omega)
    subst this
    exact Sl.nil
  · injection h5 with ha hl hc'
    subst ha hc'
    refine ⟨hmc, by unfold maxLen at hc; omega, by simp, fun i x hx => ⟨b, 0, rfl, hrd _ _ _ _ fun j v hv => ?_⟩⟩
    have hj : j < k := by have := (List.getElem?_eq_some_iff.1 hv).1; rw [hf] at this; exact this
    have h6 : (xs.flatMap f)[i * k + j]? = some v := by rw [flat_get hf hx hj]; exact hv
    rw [← ht, List.getElem?_take] at h6
    split at h6
    · refine hv_blk hb ?_
      simpa [cellIn] using h6
    · cases h6
end Go.Bw
