/- Own base: rules that step through the code of a function, with what is known of its slots and of the memory kept as a list; no condition. -/
import Derived.Test.YtcjloelhjnnhmaaDoorBw22
namespace Go.Bw
set_option linter.unusedVariables false
set_option linter.unnecessarySimpa false
set_option linter.unusedSimpArgs false
open Go Go.RowKit

/-! ### Own rows: places in them -/
theorem osT_holds {α : Type} {f : α → List Value} {e : TypeId} {k c b o : Nat} {a : Option Addr} {xs : List α} {w : World} (h : (osT e k f a c xs).holds w) (ha : a = some ⟨b, o, none⟩) :
    o = 0 ∧ ∃ cur, w.heap[b]? = some (.cells cur e (0, 0)) ∧ cur.toList.take (xs.length * k) = xs.flatMap f ∧ cur.size = c * k ∧ xs.length ≤ c := by
  subst ha
  obtain ⟨h1, h2⟩ := (h : w.ownsRow 0 e k _ xs.length (xs.flatMap f))
  rcases h2 with ⟨h3, _⟩ | ⟨g, cap, cur, hv, _, hb, hmc, hc, hs, ht⟩
  · cases h3
  · injection hv with h3 _ h4
    injection h3 with h3
    injection h3 with h3 h5
    subst h3 h4 h5
    exact ⟨rfl, cur, hb, ht, hs, hmc⟩
section
variable {P : Program} {ops : Array Oper} {Q : Exit → Act → World → Prop} {n : Nat} {ds : List Deferred} {l : List (Nat × Value)} {w0 : World} {F : List Nat} {L : List Asr} {Vs : List View} {rest : List Oper}
  {ty : TypeId} {pos : String} {af : Array Edge} {g : Option (Nat × Bool)}
theorem osT_shape {α : Type} {f : α → List Value} {e : TypeId} {k c : Nat} {a : Option Addr} {xs : List α} {w : World} (hw : Ws w0 F L Vs w) (i : Nat) (hL : L[i]? = some (osT e k f a c xs)) (hm : 0 < xs.length) : (∃ b, a = some ⟨b, 0, none⟩) ∧ xs.length ≤ c ∧ c ≤ maxLen := by
  obtain ⟨h1, h2⟩ := (hw.kn _ (mem_of_idx hL) : w.ownsRow 0 e k _ xs.length (xs.flatMap f))
  rcases h2 with ⟨h3, h4⟩ | ⟨b, cap, cur, hv, _, _, hmc, hc, _⟩
  · injection h3 with _ h5 _; omega
  · injection hv with h3 _ h4
    subst h3 h4
    exact ⟨⟨b, rfl⟩, hmc, hc⟩
theorem WC.shapeT {α : Type} {f : α → List Value} {cd : Code} {e : TypeId} {k c : Nat} {a : Option Addr} {xs : List α} (i : Nat) (hL : L[i]? = some (osT e k f a c xs)) (hm : 0 < xs.length)
    (h : ∀ b, a = some ⟨b, 0, none⟩ → xs.length ≤ c → c ≤ maxLen → WC P cd Q n ds l (Ws w0 F L Vs)) : WC P cd Q n ds l (Ws w0 F L Vs) := by
  intro A w ha hw
  obtain ⟨⟨b, hb⟩, h1, h2⟩ := osT_shape hw i hL hm
  exact h b hb h1 h2 A w ha hw
theorem WL.shapeT {α : Type} {f : α → List Value} {e : TypeId} {k c : Nat} {a : Option Addr} {xs : List α} (i : Nat) (hL : L[i]? = some (osT e k f a c xs)) (hm : 0 < xs.length)
    (h : ∀ b, a = some ⟨b, 0, none⟩ → xs.length ≤ c → c ≤ maxLen → WL P ops Q n ds l (Ws w0 F L Vs) rest) : WL P ops Q n ds l (Ws w0 F L Vs) rest := by
  intro A w ha hw
  obtain ⟨⟨b, hb⟩, h1, h2⟩ := osT_shape hw i hL hm
  exact h b hb h1 h2 A w ha hw
/-- Its places, if there are none too. -/
theorem WC.capT {α : Type} {f : α → List Value} {cd : Code} {e : TypeId} {k c : Nat} {a : Option Addr} {xs : List α} (i : Nat) (hL : L[i]? = some (osT e k f a c xs))
    (h : (∀ p, a = some p → p.spot = none) → xs.length ≤ c → c ≤ maxLen → WC P cd Q n ds l (Ws w0 F L Vs)) : WC P cd Q n ds l (Ws w0 F L Vs) := by
  intro A w ha hw
  obtain ⟨h1, h2⟩ := (hw.kn _ (mem_of_idx hL) : w.ownsRow 0 e k _ xs.length (xs.flatMap f))
  rcases h2 with ⟨h3, h4⟩ | ⟨b, cap, cur, hv, _, _, hmc, hc, _⟩
  · injection h3 with h5 h6 h7
    subst h5 h7
    exact h (by simp) (by omega) (by unfold maxLen; omega) A w ha hw
  · injection hv with h3 _ h4
    subst h3 h4
    exact h (by simp) hmc hc A w ha hw
theorem yl_ldT {α : Type} {f : α → List Value} {t e : TypeId} {x : Operand} {b o p k c : Nat} {a : Option Addr} {xs : List α} {y : α} {v : Value} {d : Option Tmp} (i j q : Nat) (hx : opv l x = some (.pointer (some ⟨b, p, none⟩))) (hL : L[i]? = some (osT e k f a c xs)) (ha : a = some ⟨b, o, none⟩)
    (hp : p = o + j * k + q) (hf : ∀ x, (f x).length = k) (hy : xs[j]? = some y) (hq : (f y)[q]? = some v) (ht : nonAgg P t = true) : Yl P l (Ws w0 F L Vs) ⟨d, .load t x, ty, pos, af, g⟩ v := yl_ldc ht hx fun w hw => by
  obtain ⟨rfl, cur, hb, hxs, hcs, hm⟩ := osT_holds (hw.kn _ (mem_of_idx hL)) ha
  refine cell_of_heap hb ?_
  have hqk : q < k := by have := (List.getElem?_eq_some_iff.1 hq).1; rw [hf] at this; exact this
  have h6 : (xs.flatMap f)[j * k + q]? = some v := by rw [flat_get hf hy hqk]; exact hq
  rw [← hxs, List.getElem?_take] at h6
  split at h6
  · subst hp; simpa [cellIn] using h6
  · cases h6
/-- A store into one of its things. -/
theorem WL.storeT {α : Type} {f : α → List Value} {t e : TypeId} {x z : Operand} {b o p k kk c : Nat} {a : Option Addr} {xs : List α} {y : α} {v : Value} (i j q : Nat) (y' : α) (hg : GOk ops l g) (hx : opv l x = some (.pointer (some ⟨b, p, none⟩))) (hz : opv l z = some v) (hL : L[i]? = some (osT e k f a c xs)) (ha : a = some ⟨b, o, none⟩)
    (hp : p = o + j * k + q) (hf : ∀ x, (f x).length = k) (hy : xs[j]? = some y) (hs : sizeP P t = some kk) (hl : (vcells v).length = kk) (h1 : (vcells v).all (·.oneCell') = true) (hq : q + kk ≤ k) (hy' : f y' = (f y).take q ++ vcells v ++ (f y).drop (q + kk))
    (h : WL P ops Q n ds l (Ws w0 F (L.set i (osT e k f a c (xs.set j y'))) Vs) rest) : WL P ops Q n ds l (Ws w0 F L Vs) (⟨none, .store t x z, ty, pos, af, g⟩ :: rest) := by
  refine WL.step hg fun A w hA hw K hK => ?_
  have hh : (osT e k f a c xs).holds w := hw.kn _ (mem_of_idx hL)
  obtain ⟨rfl, cur, hb, hxs, hcs, hm⟩ := osT_holds hh ha
  have hj : j < xs.length := (List.getElem?_eq_some_iff.1 hy).1
  have hjk : j * k + k ≤ xs.length * k := by rw [← Nat.succ_mul]; exact Nat.mul_le_mul_right _ hj
  have hck : xs.length * k ≤ c * k := Nat.mul_le_mul_right _ hm
  have hok : stOk (.cells cur e (0, 0)) p kk = true := by
    simp only [stOk, Nat.beq_refl, Bool.and_true, Bool.and_self]
    exact Nat.ble_eq_true_of_le (by simp [hcs]; omega)
  have hrun : (execOp A.eval ⟨none, .store t x z, ty, pos, af, g⟩).run P w = .ok .skip { w with heap := w.heap.setIfInBounds b (setIn (.cells cur e (0, 0)) p (vcells v)) } := by
    simp only [execOp, hA.eval hx, hA.eval hz, Instr.storeAt, Instr.sureAddr, Sem.run_bind, Sem.run_pure, Result.andThen_ok, run_storeVar hs hl h1 hb hok]
  simp only [Oper.wp, hrun, Oper.upon_skip]
  refine hK _ _ (h _ _ (hA.put_none undef) ?_)
  have hlt := lt_of_heap hb
  have hlen : (xs.set j y').length = xs.length := by simp
  have hfl := flat_set hf hy (j := q) (vs := vcells v) (y := y') (by omega) (by rw [hl]; exact hy')
  refine Ws.turn1 hw i hL ⟨rfl, rfl, rfl, by simp, fun j' hj' hne => ?_⟩ ?_ (by subst ha; simp [osl, Value.ownBlock]) (fun k' hk' => ?_)
  · have : b ≠ j' := fun e' => hne (by subst ha; simp [osl, Value.ownBlock, e'])
    simp [Array.getElem?_setIfInBounds_ne this]
  · show World.ownsRow _ 0 e k (.slice a (xs.set j y').length c) (xs.set j y').length _
    rw [hlen]
    obtain ⟨g1, g2⟩ := (hh : w.ownsRow 0 e k _ xs.length (xs.flatMap f))
    refine ⟨by rw [flat_length hf, hlen], .inr ?_⟩
    rcases g2 with ⟨g3, _⟩ | ⟨g, cap, cur', hv, g0, hb', hmc, hcm, hs', ht'⟩
    · subst ha; cases g3
    · subst ha
      injection hv with e3 _ e4
      injection e3 with e3
      injection e3 with e3
      subst e3 e4
      refine ⟨b, c, (cur.toList.take p ++ vcells v ++ cur.toList.drop (p + (vcells v).length)).toArray, rfl, Nat.zero_le _, ?_, hmc, hcm, ?_, ?_⟩
      · show (w.heap.setIfInBounds b _)[b]? = _
        simp [hlt, setIn]
      · simp [hcs]; omega
      · rw [← hfl, ← hxs]
        subst hp
        simp only [Nat.zero_add]
        have hcl : cur.toList.length = c * k := by simp [hcs]
        have e1 : ((cur.toList.take (xs.length * k)).take (j * k + q)) = cur.toList.take (j * k + q) := by rw [List.take_take]; congr 1; omega
        have e2 : (cur.toList.take (j * k + q)).length = j * k + q := by rw [List.length_take, hcl]; omega
        have e3 : (cur.toList.take (j * k + q) ++ vcells v).length = j * k + q + kk := by rw [List.length_append, e2, hl]
        rw [e1, hl]
        have hm' : xs.length * k = (j * k + q + kk) + (xs.length * k - (j * k + q + kk)) := by omega
        rw [List.take_append, e3, List.take_of_length_le (by rw [e3]; omega), List.drop_take]
  · refine .inl ?_
    simp only [osl] at hk' ⊢
    subst ha
    simpa [Value.ownBlock] using hk'
/-- Cut behind, the rest named. -/
theorem WL.truncT2 {α : Type} {f : α → List Value} {e : TypeId} {k c : Nat} {a : Option Addr} {xs : List α} (i : Nat) (ys : List α) (hL : L[i]? = some (osT e k f a c xs)) (hf : ∀ x, (f x).length = k) (hm : ys.length ≤ xs.length) (he : xs.take ys.length = ys)
    (h : WL P ops Q n ds l (Ws w0 F (L.set i (osT e k f a c ys)) Vs) rest) : WL P ops Q n ds l (Ws w0 F L Vs) rest :=
  WL.truncT i ys.length hL hf hm (by rw [he]; exact h)
theorem WL.famOpen {A : Asr} {As : List Asr} (h : WL P ops Q n ds l (Ws w0 F (A :: fam As :: L) Vs) rest) : WL P ops Q n ds l (Ws w0 F (fam (A :: As) :: L) Vs) rest := WL.world (fun _ h => h.fam_open) h
theorem WL.famShut {A : Asr} {As : List Asr} (h : WL P ops Q n ds l (Ws w0 F (fam (A :: As) :: L) Vs) rest) : WL P ops Q n ds l (Ws w0 F (A :: fam As :: L) Vs) rest := WL.world (fun _ h => h.fam_shut) h
theorem WC.famOpen {c : Code} {A : Asr} {As : List Asr} (h : WC P c Q n ds l (Ws w0 F (A :: fam As :: L) Vs)) : WC P c Q n ds l (Ws w0 F (fam (A :: As) :: L) Vs) := WC.world (fun _ h => h.fam_open) h
theorem WC.famShut {c : Code} {A : Asr} {As : List Asr} (h : WC P c Q n ds l (Ws w0 F (fam (A :: As) :: L) Vs)) : WC P c Q n ds l (Ws w0 F (A :: fam As :: L) Vs) := WC.world (fun _ h => h.fam_shut) h
/-- A thing is put back where it was named. -/
theorem WL.perm {L' : List Asr} (hp : L.Perm L') (h : WL P ops Q n ds l (Ws w0 F L' Vs) rest) : WL P ops Q n ds l (Ws w0 F L Vs) rest := WL.world (fun _ h => h.perm hp) h
end
end Go.Bw
