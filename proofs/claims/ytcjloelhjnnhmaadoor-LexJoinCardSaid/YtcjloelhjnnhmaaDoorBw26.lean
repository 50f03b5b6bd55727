/- Own base: rules that step through the code of a function, with what is known of its slots and of the memory kept as a list; no condition. -/
import Derived.Test.YtcjloelhjnnhmaaDoorBw25
namespace Go.Bw
set_option linter.unusedVariables false
set_option linter.unnecessarySimpa false
set_option linter.unusedSimpArgs false
open Go Go.RowKit
section
variable {P : Program} {ops : Array Oper} {Q : Exit → Act → World → Prop} {n : Nat} {ds : List Deferred} {l : List (Nat × Value)} {w0 : World} {F : List Nat} {L : List Asr} {Vs : List View} {rest : List Oper} {c : Code}
  {ty : TypeId} {pos : String} {af : Array Edge} {g : Option (Nat × Bool)}
/-- What the memory tells. -/
theorem WC.fact {p : Prop} {W : World → Prop} (hp : ∀ w, W w → p) (h : p → WC P c Q n ds l W) : WC P c Q n ds l W := fun a w ha hw => h (hp w hw) a w ha hw
theorem WL.fact {p : Prop} {W : World → Prop} (hp : ∀ w, W w → p) (h : p → WL P ops Q n ds l W rest) : WL P ops Q n ds l W rest := fun a w ha hw => h (hp w hw) a w ha hw
theorem Ws.osT_blk {α : Type} {f : α → List Value} {k b c : Nat} {e : TypeId} {xs : List α} {w : World} (h : Ws w0 F L Vs w) (i : Nat) (hL : L[i]? = some (blk b (.cells (xs.flatMap f).toArray e (0, 0)))) (hf : ∀ x, (f x).length = k) (hc : xs.length = c) (hm : c ≤ maxLen) : Ws w0 F (L.set i (osT e k f (some ⟨b, 0, none⟩) c xs)) Vs w := by
  have h1 := h.osl_blk i hL (m := c) (cap := c) (size := k) (Nat.le_refl _) hm (by simp [flat_length hf, hc])
  have e1 : osl e k (.slice (some ⟨b, 0, none⟩) c c) c ((xs.flatMap f).toArray.toList.take (c * k)) = osT e k f (some ⟨b, 0, none⟩) c xs := by
    show _ = osl e k (.slice (some ⟨b, 0, none⟩) xs.length c) xs.length (xs.flatMap f)
    rw [hc, List.take_of_length_le (by rw [List.toList_toArray, flat_length hf, hc]; exact Nat.le_refl _)]
  rw [e1] at h1
  exact h1
/-- A point at which ways meet, with a ghost. -/
theorem WC.cutE {ι : Type} {x y : Code} {W : World → Prop} (E : ι → List (Nat × Value)) (Wi : ι → World → Prop) (R : ι → Prop) (hx : WC P x (Exit.then (fun a w => ∃ i, R i ∧ Ag n ds (E i) a ∧ Wi i w) Q) n ds l W) (hy : ∀ i, R i → WC P y Q n ds (E i) (Wi i)) : WC P (.seq x y) Q n ds l W := by
  intro a w ha hw
  refine wp_seq (wp_mono (hx a w ha hw) fun e a' w' hq => ?_)
  cases e with
  | normal => obtain ⟨i, hR, h1, h2⟩ := hq; exact hy i hR a' w' h1 h2
  | _ => exact hq
theorem WE.meetE {ι : Type} {Q : Exit → Act → World → Prop} {W : World → Prop} {E : ι → List (Nat × Value)} {Wi : ι → World → Prop} {R : ι → Prop} (i : ι) (hR : R i) (hE : ∀ p ∈ E i, lk l p.1 = some p.2) (hW : ∀ w, W w → Wi i w) :
    WE (Exit.then (fun a w => ∃ i, R i ∧ Ag n ds (E i) a ∧ Wi i w) Q) .normal n ds l W := fun a w ha hw => ⟨i, hR, ha.sub hE, hW w hw⟩
theorem set_same {A : Asr} (i : Nat) (hL : L[i]? = some A) : L.set i A = L := by
  rw [← (List.getElem?_eq_some_iff.1 hL).2]; exact List.set_getElem_self (List.getElem?_eq_some_iff.1 hL).1
theorem WL.reL {A A' : Asr} (i : Nat) (hL : L[i]? = some A) (hA : A = A') (h : WL P ops Q n ds l (Ws w0 F (L.set i A') Vs) rest) : WL P ops Q n ds l (Ws w0 F L Vs) rest := by
  subst hA; rwa [set_same i hL] at h
theorem WC.reL {A A' : Asr} (i : Nat) (hL : L[i]? = some A) (hA : A = A') (h : WC P c Q n ds l (Ws w0 F (L.set i A') Vs)) : WC P c Q n ds l (Ws w0 F L Vs) := by
  subst hA; rwa [set_same i hL] at h
theorem Ws.reL {w : World} {A A' : Asr} (h : Ws w0 F L Vs w) (i : Nat) (hL : L[i]? = some A) (hA : A = A') : Ws w0 F (L.set i A') Vs w := by
  subst hA; rwa [set_same i hL]
theorem yl_ldTF {α : Type} {f : α → List Value} {t e : TypeId} {x : Operand} {b o p k c : Nat} {a : Option Addr} {xs : List α} {y : α} {v : Value} {d : Option Tmp} {As : List Asr} (i j q : Nat) (hx : opv l x = some (.pointer (some ⟨b, p, none⟩))) (hL : L[i]? = some (fam As)) (hA : osT e k f a c xs ∈ As) (ha : a = some ⟨b, o, none⟩)
    (hp : p = o + j * k + q) (hf : ∀ x, (f x).length = k) (hy : xs[j]? = some y) (hq : (f y)[q]? = some v) (ht : nonAgg P t = true) : Yl P l (Ws w0 F L Vs) ⟨d, .load t x, ty, pos, af, g⟩ v := yl_ldc ht hx fun w hw => by
  have hh : (osT e k f a c xs).holds w := (hw.kn _ (mem_of_idx hL) : (fam As).holds w) _ hA
  obtain ⟨rfl, cur, hb, hxs, hcs, hm⟩ := osT_holds hh ha
  refine cell_of_heap hb ?_
  have hqk : q < k := by have := (List.getElem?_eq_some_iff.1 hq).1; rw [hf] at this; exact this
  have h6 : (xs.flatMap f)[j * k + q]? = some v := by rw [flat_get hf hy hqk]; exact hq
  rw [← hxs, List.getElem?_take] at h6
  split at h6
  · subst hp; simpa [cellIn] using h6
  · cases h6
theorem fam_shape {α : Type} {f : α → List Value} {e : TypeId} {k c : Nat} {a : Option Addr} {xs : List α} {w : World} {As : List Asr} (hw : Ws w0 F L Vs w) (i : Nat) (hL : L[i]? = some (fam As)) (hA : osT e k f a c xs ∈ As) (hm : 0 < xs.length) : ∃ b o, a = some ⟨b, o, none⟩ := by
  obtain ⟨h1, h2⟩ := ((hw.kn _ (mem_of_idx hL) : (fam As).holds w) _ hA : w.ownsRow 0 e k _ xs.length (xs.flatMap f))
  rcases h2 with ⟨h3, h4⟩ | ⟨b, cap, cur, hv, _, _, hmc, hc, _⟩
  · injection h3 with _ h5 _; omega
  · injection hv with h3 _ h4
    subst h3 h4
    exact ⟨b, 0, rfl⟩
theorem fam_len {α : Type} {f : α → List Value} {e : TypeId} {k c : Nat} {a : Option Addr} {xs : List α} {w : World} {As : List Asr} (hw : Ws w0 F L Vs w) (i : Nat) (hL : L[i]? = some (fam As)) (hA : osT e k f a c xs ∈ As) : xs.length ≤ maxLen := by
  obtain ⟨h1, h2⟩ := ((hw.kn _ (mem_of_idx hL) : (fam As).holds w) _ hA : w.ownsRow 0 e k _ xs.length (xs.flatMap f))
  rcases h2 with ⟨h3, h4⟩ | ⟨b, cap, cur, hv, _, _, hmc, hc, _⟩
  · injection h3 with _ h5 _; unfold maxLen; omega
  · injection hv with h3 _ h4; omega
theorem osT_shape' {α : Type} {f : α → List Value} {e : TypeId} {k c : Nat} {a : Option Addr} {xs : List α} {w : World} (hw : Ws w0 F L Vs w) (i : Nat) (hL : L[i]? = some (osT e k f a c xs)) (hm : 0 < xs.length) : ∃ b o, a = some ⟨b, o, none⟩ := by
  obtain ⟨⟨b, h⟩, _⟩ := osT_shape hw i hL hm
  exact ⟨b, 0, h⟩
end
section
variable {P : Program} {l : List (Nat × Value)} {W : World → Prop} {d : Option Tmp} {ty : TypeId} {pos : String} {af : Array Edge} {g : Option (Nat × Bool)}
theorem yl_ltT {t u : TypeId} {x y : Operand} {k : IntKind} {a b : Int} (hx : opv l x = some (.int k a)) (hy : opv l y = some (.int k b)) (h : a < b) : Yl P l W ⟨d, .binOp .lss t x y u, ty, pos, af, g⟩ (.bool true) := by
  have := yl_lt (P := P) (W := W) (d := d) (ty := ty) (pos := pos) (af := af) (g := g) (t := t) (u := u) hx hy
  rwa [show decide (a < b) = true by simpa using h] at this
theorem yl_ltF {t u : TypeId} {x y : Operand} {k : IntKind} {a b : Int} (hx : opv l x = some (.int k a)) (hy : opv l y = some (.int k b)) (h : b ≤ a) : Yl P l W ⟨d, .binOp .lss t x y u, ty, pos, af, g⟩ (.bool false) := by
  have := yl_lt (P := P) (W := W) (d := d) (ty := ty) (pos := pos) (af := af) (g := g) (t := t) (u := u) hx hy
  rwa [show decide (a < b) = false by simp; omega] at this
end
end Go.Bw
