/- Own base: rules that step through the code of a function, with what is known of its slots and of the memory kept as a list; no condition. -/
import Derived.Test.YtcjloelhjnnhmaaDoorBw20
import Derived.Lib.AppendZeros
namespace Go.Bw
set_option linter.unusedVariables false
set_option linter.unnecessarySimpa false
set_option linter.unusedSimpArgs false
open Go Go.RowKit

/-! ### Families of own things; rows that are cut -/
def fam (As : List Asr) : Asr := ⟨As.flatMap Asr.ids, fun w => ∀ A ∈ As, A.holds w,
  fun w w' h hw A hA => A.loc w w' (fun k hk => h k (List.mem_flatMap.2 ⟨A, hA, hk⟩)) (hw A hA),
  fun w hw k hk => let ⟨A, hA, hk⟩ := List.mem_flatMap.1 hk; A.pres w (hw A hA) k hk⟩
section
variable {P : Program} {ops : Array Oper} {Q : Exit → Act → World → Prop} {n : Nat} {ds : List Deferred} {l : List (Nat × Value)} {w0 w : World} {F : List Nat} {L : List Asr} {Vs : List View} {rest : List Oper} {A : Asr} {As : List Asr}
theorem Ws.fam_open (h : Ws w0 F (fam (A :: As) :: L) Vs w) : Ws w0 F (A :: fam As :: L) Vs w := by
  refine ⟨h.fr, ?_, ?_, ?_, h.vs, ?_⟩
  · intro B hB
    have hf := h.kn (fam (A :: As)) (by simp)
    rcases List.mem_cons.1 hB with rfl | hB
    · exact hf _ (by simp)
    · rcases List.mem_cons.1 hB with rfl | hB
      · exact fun C hC => hf C (by simp [hC])
      · exact h.kn B (by simp [hB])
  · have := h.nd
    simpa [fam] using this
  · intro B hB k hk
    rcases List.mem_cons.1 hB with rfl | hB
    · exact h.own (fam (B :: As)) (by simp) k (by simp [fam, hk])
    · rcases List.mem_cons.1 hB with rfl | hB
      · exact h.own (fam (A :: As)) (by simp) k (by simp only [fam, List.flatMap_cons] at hk ⊢; exact List.mem_append_right _ hk)
      · exact h.own B (by simp [hB]) k hk
  · intro H hH B hB k hk
    rcases List.mem_cons.1 hB with rfl | hB
    · exact h.off H hH (fam (B :: As)) (by simp) k (by simp [fam, hk])
    · rcases List.mem_cons.1 hB with rfl | hB
      · exact h.off H hH (fam (A :: As)) (by simp) k (by simp only [fam, List.flatMap_cons] at hk ⊢; exact List.mem_append_right _ hk)
      · exact h.off H hH B (by simp [hB]) k hk
theorem Ws.fam_shut (h : Ws w0 F (A :: fam As :: L) Vs w) : Ws w0 F (fam (A :: As) :: L) Vs w := by
  have hA := h.kn A (by simp)
  have hF := h.kn (fam As) (by simp)
  refine ⟨h.fr, ?_, ?_, ?_, h.vs, ?_⟩
  · intro B hB
    rcases List.mem_cons.1 hB with rfl | hB
    · intro C hC
      rcases List.mem_cons.1 hC with rfl | hC
      · exact hA
      · exact hF C hC
    · exact h.kn B (by simp [hB])
  · have := h.nd
    simpa [fam] using this
  · intro B hB k hk
    rcases List.mem_cons.1 hB with rfl | hB
    · simp only [fam, List.flatMap_cons, List.mem_append] at hk
      rcases hk with hk | hk
      · exact h.own A (by simp) k hk
      · exact h.own (fam As) (by simp) k hk
    · exact h.own B (by simp [hB]) k hk
  · intro H hH B hB k hk
    rcases List.mem_cons.1 hB with rfl | hB
    · simp only [fam, List.flatMap_cons, List.mem_append] at hk
      rcases hk with hk | hk
      · exact h.off H hH A (by simp) k hk
      · exact h.off H hH (fam As) (by simp) k hk
    · exact h.off H hH B (by simp [hB]) k hk
theorem Ws.fam_nil (h : Ws w0 F L Vs w) : Ws w0 F (fam [] :: L) Vs w := by
  refine ⟨h.fr, ?_, by simpa [fam] using h.nd, ?_, h.vs, ?_⟩
  · intro B hB
    rcases List.mem_cons.1 hB with rfl | hB
    · intro C hC; cases hC
    · exact h.kn B hB
  · intro B hB k hk
    rcases List.mem_cons.1 hB with rfl | hB
    · simp [fam] at hk
    · exact h.own B hB k hk
  · intro H hH B hB k hk
    rcases List.mem_cons.1 hB with rfl | hB
    · simp [fam] at hk
    · exact h.off H hH B hB k hk
theorem ownsRow_trunc {w : World} {e : TypeId} {size m m' c : Nat} {a : Option Addr} {xs : List Value} (h : w.ownsRow 0 e size (.slice a m c) m xs) (hm : m' ≤ m) : w.ownsRow 0 e size (.slice a m' c) m' (xs.take (m' * size)) := by
  obtain ⟨h1, h2⟩ := h
  have hmul : m' * size ≤ m * size := Nat.mul_le_mul_right _ hm
  rcases h2 with ⟨h2, h3⟩ | ⟨g, cap, cur, hv, h0, hg, hmc, hc, hs, ht⟩
  · injection h2 with ha hl hc
    subst ha hc
    obtain rfl : m' = 0 := by omega
    exact ⟨by simp, .inl ⟨rfl, by simp⟩⟩
  · injection hv with ha hl hc'
    subst ha hc'
    refine ⟨by rw [List.length_take, h1]; omega, .inr ⟨g, c, cur, rfl, h0, hg, by omega, hc, hs, ?_⟩⟩
    rw [← ht, List.take_take]
    congr 1
    omega
theorem flat_take {α : Type} {f : α → List Value} {k : Nat} (hf : ∀ x, (f x).length = k) : ∀ (xs : List α) (m : Nat), (xs.flatMap f).take (m * k) = (xs.take m).flatMap f
  | [], m => by simp
  | x :: r, 0 => by simp
  | x :: r, m + 1 => by
    simp only [List.flatMap_cons, List.take_succ_cons]
    rw [List.take_append, hf, List.take_of_length_le (by rw [hf, Nat.add_mul]; omega), ← flat_take hf r m]
    congr 2
    rw [Nat.add_mul]; omega
/-- An own row, cut behind. -/
theorem WL.truncT {α : Type} {f : α → List Value} {e : TypeId} {k c : Nat} {a : Option Addr} {xs : List α} (i m : Nat) (hL : L[i]? = some (osT e k f a c xs)) (hf : ∀ x, (f x).length = k) (hm : m ≤ xs.length)
    (h : WL P ops Q n ds l (Ws w0 F (L.set i (osT e k f a c (xs.take m))) Vs) rest) : WL P ops Q n ds l (Ws w0 F L Vs) rest := by
  refine WL.world (fun w hw => ?_) h
  have ho : w.ownsRow 0 e k (.slice a xs.length c) xs.length (xs.flatMap f) := hw.kn _ (mem_of_idx hL)
  have ht := ownsRow_trunc ho hm
  rw [flat_take hf] at ht
  refine Ws.turn1 hw i hL (Fr.refl _ _) ?_ (by simp [osl]; cases a <;> simp [Value.ownBlock]) (fun k hk => ?_)
  · show w.ownsRow 0 e k (.slice a (xs.take m).length c) (xs.take m).length _
    rw [show (xs.take m).length = m by simp; omega]
    exact ht
  · refine .inl ?_
    simp only [osl] at hk ⊢
    cases a <;> simpa [Value.ownBlock] using hk
end
section
variable {P : Program} {l : List (Nat × Value)} {W : World → Prop} {d : Option Tmp} {ty : TypeId} {pos : String} {af : Array Edge} {g : Option (Nat × Bool)}
theorem yl_slhn {t : TypeId} {x y : Operand} {a : Option Addr} {m c s : Nat} {k : IntKind} {h : Int} (n : Nat) (hs : elemSz P t = some s) (hx : opv l x = some (.slice a m c)) (hsp : ∀ p, a = some p → p.spot = none) (hy : opv l y = some (.int k h)) (hh : h = (n : Int)) (h1 : n ≤ c) :
    Yl P l W ⟨d, .slice t x none (some y) none, ty, pos, af, g⟩ (.slice a n c) := by
  subst hh
  exact yl_slhi hs hx hsp hy (by omega) (by omega)
theorem yl_slln {t : TypeId} {x y : Operand} {a : Option Addr} {m c s : Nat} {k : IntKind} {h : Int} (n : Nat) (hs : elemSz P t = some s) (hx : opv l x = some (.slice a m c)) (hy : opv l y = some (.int k h)) (hh : h = (n : Int)) (h1 : n ≤ m) (h2 : m ≤ c) :
    Yl P l W ⟨d, .slice t x (some y) none none, ty, pos, af, g⟩ (.slice (if c - n = 0 then a else a.map (·.add (n * s))) (m - n) (c - n)) := by
  intro ρ w hρ _
  subst hh
  unfold elemSz at hs
  cases hu : P.underlying t with
  | none => simp [hu] at hs
  | some dd =>
    cases dd <;> simp [hu] at hs
    rename_i e
    obtain ⟨inf, hi, rfl⟩ := hs
    simp [execOp, hρ x _ hx, hρ y _ hy, Instr.sliceAt, Instr.slice, Instr.sliceBounds, Instr.sliceBound, asIntOf, run_underlying hu, sizeOf, typeInfo, hi, h1]
    by_cases hcn : c = n
    · subst hcn; simp
    · have : ¬ c - n = 0 := by omega
      simp [hcn, this]
end
theorem Sl.drop {α : Type} {rd : View → Nat → Nat → α → Prop} {k : Nat} {H : View} {a : Option Addr} {c : Nat} {l : List α} (h : Sl rd k H a c l) (n : Nat) (hn : n ≤ l.length) : Sl rd k H (if c - n = 0 then a else a.map (·.add (n * k))) (c - n) (l.drop n) := by
  have hc := h.cap
  refine ⟨by simp; omega, by have := h.max; omega, ?_, fun i x hx => ?_⟩
  · intro p hp
    split at hp
    · exact h.spot p hp
    · cases a with
      | none => cases hp
      | some q =>
        have hq := h.spot q rfl
        obtain ⟨b, o, s⟩ := q
        obtain rfl : s = none := hq
        simp [add_none] at hp
        subst hp; rfl
  · rw [List.getElem?_drop] at hx
    have hi := (List.getElem?_eq_some_iff.1 hx).1
    obtain ⟨b, o, ha, hr⟩ := h.elt _ _ hx
    subst ha
    refine ⟨b, o + n * k, ?_, ?_⟩
    · rw [if_neg (by omega)]; simp [add_none]
    · rw [Nat.add_mul] at hr
      rw [Nat.add_assoc]; exact hr
theorem Sl.take {α : Type} {rd : View → Nat → Nat → α → Prop} {k : Nat} {H : View} {a : Option Addr} {c : Nat} {l : List α} (h : Sl rd k H a c l) (n : Nat) : Sl rd k H a c (l.take n) :=
  ⟨by have := h.cap; simp; omega, h.max, h.spot, fun i x hx => h.elt i x (by
    rw [List.getElem?_take] at hx
    split at hx
    · exact hx
    · cases hx)⟩
end Go.Bw
