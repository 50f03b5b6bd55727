/- Own base: rules that step through the code of a function, with what is known of its slots and of the memory kept as a list; no condition. -/
import Derived.Test.YtcjloelhjnnhmaaDoorBw8
import Derived.WalkSpells
namespace Go.Bw
open Go Go.RowKit

/-! ### Rows of things of k cells -/
theorem flat_length {α : Type} {f : α → List Value} {k : Nat} (hf : ∀ x, (f x).length = k) : ∀ l : List α, (l.flatMap f).length = l.length * k
  | [] => by simp
  | x :: r => by simp [hf, flat_length hf r, Nat.add_mul]; omega
theorem flat_split {α : Type} {f : α → List Value} {k : Nat} (hf : ∀ x, (f x).length = k) : ∀ (l : List α) (i : Nat) (x : α), l[i]? = some x →
    l.flatMap f = (l.take i).flatMap f ++ f x ++ (l.drop (i + 1)).flatMap f
  | [], i, x, h => by simp at h
  | y :: r, 0, x, h => by simp at h; simp [h]
  | y :: r, i + 1, x, h => by
    have := flat_split hf r i x (by simpa using h)
    simp only [List.flatMap_cons, List.take_succ_cons, List.drop_succ_cons]
    rw [this]
    simp
theorem flat_get {α : Type} {f : α → List Value} {k : Nat} (hf : ∀ x, (f x).length = k) {l : List α} {i : Nat} {x : α} (h : l[i]? = some x) {j : Nat} (hj : j < k) : (l.flatMap f)[i * k + j]? = (f x)[j]? := by
  have hi := (List.getElem?_eq_some_iff.1 h).1
  have e1 : ((l.take i).flatMap f).length = i * k := by rw [flat_length hf, List.length_take, Nat.min_eq_left (by omega)]
  rw [flat_split hf l i x h, List.append_assoc, List.getElem?_append_right (by omega), e1, Nat.add_sub_cancel_left, List.getElem?_append_left (by rw [hf]; exact hj)]
theorem flat_set {α : Type} {f : α → List Value} {k : Nat} (hf : ∀ x, (f x).length = k) {l : List α} {i : Nat} {x y : α} (h : l[i]? = some x) {j : Nat} {vs : List Value} (hj : j + vs.length ≤ k) (hy : f y = (f x).take j ++ vs ++ (f x).drop (j + vs.length)) :
    (l.flatMap f).take (i * k + j) ++ vs ++ (l.flatMap f).drop (i * k + j + vs.length) = (l.set i y).flatMap f := by
  have hi := (List.getElem?_eq_some_iff.1 h).1
  have e1 : ((l.take i).flatMap f).length = i * k := by rw [flat_length hf, List.length_take, Nat.min_eq_left (by omega)]
  have h2 : (l.set i y)[i]? = some y := by simp [hi]
  rw [flat_split hf (l.set i y) i y h2, flat_split hf l i x h, hy]
  have ht : (l.set i y).take i = l.take i := List.take_set_of_le (Nat.le_refl i)
  have hd : (l.set i y).drop (i + 1) = l.drop (i + 1) := List.drop_set_of_lt (by omega)
  rw [ht, hd]
  generalize hA : (l.take i).flatMap f = A at *
  generalize hB : (l.drop (i + 1)).flatMap f = B at *
  have t1 : (A ++ f x ++ B).take (i * k + j) = A ++ (f x).take j := by
    rw [List.append_assoc, List.take_append, e1, List.take_of_length_le (by omega), Nat.add_sub_cancel_left, List.take_append_of_le_length (by rw [hf]; omega)]
  have t2 : (A ++ f x ++ B).drop (i * k + j + vs.length) = (f x).drop (j + vs.length) ++ B := by
    rw [List.append_assoc, List.drop_append, e1, List.drop_of_length_le (by omega), List.nil_append, List.drop_append, hf]
    have e3 : i * k + j + vs.length - i * k = j + vs.length := by omega
    rw [e3]
    have e4 : j + vs.length - k = 0 := by omega
    simp [e4]
  rw [t1, t2]
  simp

section
variable {P : Program} {ops : Array Oper} {Q : Exit → Act → World → Prop} {n : Nat} {ds : List Deferred} {l l' : List (Nat × Value)} {W : World → Prop} {w0 : World} {F : List Nat} {L : List Asr} {Vs : List View}
  {rest : List Oper} {d : Nat} {ty : TypeId} {pos : String} {af : Array Edge} {g : Option (Nat × Bool)}
theorem osl_cell {e : TypeId} {size m c b : Nat} {xs : List Value} {w : World} (h : (osl e size (.slice (some ⟨b, 0, none⟩) m c) m xs).holds w) : ∃ cur, w.heap[b]? = some (.cells cur e (0, 0)) ∧ cur.toList.take (m * size) = xs ∧ cur.size = c * size ∧ m ≤ c ∧ xs.length = m * size := by
  obtain ⟨h1, h2⟩ := (h : w.ownsRow 0 e size _ m xs)
  rcases h2 with ⟨h2, _⟩ | ⟨g', cap, cur, hv, _, hb, hm, hc, hs, ht⟩
  · cases h2
  · injection hv with h3 _ h4
    injection h3 with h3
    injection h3 with h3
    subst h3; subst h4
    exact ⟨cur, hb, ht, hs, hm, h1⟩
theorem yl_ldo {t : TypeId} {x : Operand} {b o m c size : Nat} {e : TypeId} {v : Value} {xs : List Value} {d : Option Tmp} (i : Nat) (hx : opv l x = some (.pointer (some ⟨b, o, none⟩))) (hL : L[i]? = some (osl e size (.slice (some ⟨b, 0, none⟩) m c) m xs)) (ht : nonAgg P t = true) (hc : xs[o]? = some v) :
    Yl P l (Ws w0 F L Vs) ⟨d, .load t x, ty, pos, af, g⟩ v := yl_ldc ht hx fun w hw => by
  obtain ⟨cur, hb, hxs, _⟩ := osl_cell (hw.kn _ (mem_of_idx hL))
  refine cell_of_heap hb ?_
  rw [← hxs, List.getElem?_take] at hc
  split at hc
  · exact hc
  · cases hc
theorem yl_ldoa {t : TypeId} {x : Operand} {b o m c size k : Nat} {e : TypeId} {cs : List Value} {xs : List Value} {d : Option Tmp} (i : Nat) (hx : opv l x = some (.pointer (some ⟨b, o, none⟩))) (hL : L[i]? = some (osl e size (.slice (some ⟨b, 0, none⟩) m c) m xs)) (ht : aggOf P t = some k) (hl : cs.length = k) (hc : ∀ j v, cs[j]? = some v → xs[o + j]? = some v) :
    Yl P l (Ws w0 F L Vs) ⟨d, .load t x, ty, pos, af, g⟩ (.agg cs.toArray) := yl_ldac ht hx hl fun w hw j v hj => by
  obtain ⟨cur, hb, hxs, _⟩ := osl_cell (hw.kn _ (mem_of_idx hL))
  refine cell_of_heap hb ?_
  have hc := hc j v hj
  rw [← hxs, List.getElem?_take] at hc
  split at hc
  · exact hc
  · cases hc
theorem WL.storeO {t e : TypeId} {x y : Operand} {b o k m c size : Nat} {xs : List Value} {v : Value} (i : Nat) (xs' : List Value) (hg : GOk ops l g) (hx : opv l x = some (.pointer (some ⟨b, o, none⟩))) (hy : opv l y = some v) (hL : L[i]? = some (osl e size (.slice (some ⟨b, 0, none⟩) m c) m xs))
    (hs : sizeP P t = some k) (hl : (vcells v).length = k) (h1 : (vcells v).all (·.oneCell') = true) (hb : o + k ≤ xs.length) (he : xs.take o ++ vcells v ++ xs.drop (o + (vcells v).length) = xs')
    (h : WL P ops Q n ds l (Ws w0 F (L.set i (osl e size (.slice (some ⟨b, 0, none⟩) m c) m xs')) Vs) rest) :
    WL P ops Q n ds l (Ws w0 F L Vs) (⟨none, .store t x y, ty, pos, af, g⟩ :: rest) := by
  refine WL.step hg fun a w ha hw K hK => ?_
  obtain ⟨cur, hcur, hxs, hcs, hm, hlen⟩ := osl_cell (hw.kn _ (mem_of_idx hL))
  have hle : xs.length ≤ cur.size := by rw [hlen, hcs]; exact Nat.mul_le_mul_right _ hm
  have hok : stOk (.cells cur e (0, 0)) o k = true := by
    simp only [stOk, Nat.beq_refl, Bool.and_true]
    exact Nat.ble_eq_true_of_le (by simp; omega)
  have hrun : (execOp a.eval ⟨none, .store t x y, ty, pos, af, g⟩).run P w = .ok .skip { w with heap := w.heap.setIfInBounds b (setIn (.cells cur e (0, 0)) o (vcells v)) } := by
    simp only [execOp, ha.eval hx, ha.eval hy, Instr.storeAt, Instr.sureAddr, Sem.run_bind, Sem.run_pure, Result.andThen_ok, run_storeVar hs hl h1 hcur hok]
  simp only [Oper.wp, hrun, Oper.upon_skip]
  refine hK _ _ (h _ _ (ha.put_none undef) ?_)
  refine Ws.turn1 hw i hL ⟨rfl, rfl, rfl, by simp, fun j hj hne => ?_⟩ ?_ (by simp [osl, Value.ownBlock]) (by simp [osl, Value.ownBlock])
  · have : b ≠ j := fun e => hne (by simp [osl, Value.ownBlock, e])
    simp [Array.getElem?_setIfInBounds_ne this]
  · obtain ⟨_, h2⟩ := (hw.kn _ (mem_of_idx hL) : w.ownsRow 0 e size _ m xs)
    have hcm : c ≤ maxLen := by
      rcases h2 with ⟨h2, _⟩ | ⟨g', cap, cur', hv, _, hb, hm, hc, hs, ht⟩
      · cases h2
      · injection hv with _ _ h4; rw [h4]; exact hc
    have hxl : xs'.length = xs.length := by rw [← he]; simp; omega
    refine ⟨by rw [hxl, hlen], .inr ⟨b, c, (cur.toList.take o ++ vcells v ++ cur.toList.drop (o + (vcells v).length)).toArray, rfl, Nat.zero_le _, ?_, hm, hcm, ?_, ?_⟩⟩
    · show (w.heap.setIfInBounds b _)[b]? = _
      simp [lt_of_heap hcur, setIn]
    · simp; omega
    · have hmk : o + (vcells v).length ≤ m * size := by omega
      rw [← he, ← hxs]
      apply List.ext_getElem?
      intro j
      have hlc : cur.toList.length = c * size := by simpa using hcs
      have hmc : m * size ≤ c * size := Nat.mul_le_mul_right _ hm
      simp only [List.getElem?_take, List.getElem?_append, List.length_append, List.length_take, List.getElem?_drop]
      rw [Nat.min_eq_left (a := m * size) (by omega), Nat.min_eq_left (a := o) (b := cur.toList.length) (by omega), Nat.min_eq_left (a := o) (b := m * size) (by omega)]
      split
      · split
        · split
          · rfl
          · rfl
        · rw [if_pos (by omega)]
      · rename_i hj
        rw [if_neg (by omega), if_neg (by omega)]
/-- It yields a slice that is new, and our own. -/
theorem WL.callo {f : FuncId} {args : Array Operand} {ts : Array TypeId} {vs : List Value} {e : TypeId} {size m : Nat} {xs : List Value} (hg : GOk ops l g) (hn : Nat.blt d n = true) (hf : Enters P f) (ha : evs l args.toList = some vs)
    (hC : ∀ w, Ws w0 F L Vs w → Calls P f vs.toArray w fun e' w' => ∃ v, e' = .returned v ∧ Ext w w' ∧ w'.ownsRow w.heap.size e size v m xs)
    (hr : ∀ v, (v = .slice none 0 0 ∧ m = 0 ∨ ∃ b c, v = .slice (some ⟨b, 0, none⟩) m c ∧ m ≤ c ∧ c ≤ maxLen) → WL P ops Q n ds ((d, v) :: l) (Ws w0 F (osl e size v m xs :: L) Vs) rest) :
    WL P ops Q n ds l (Ws w0 F L Vs) (⟨some d, .call ⟨.value (.func f), args, ts⟩, ty, pos, af, g⟩ :: rest) := by
  refine WL.step hg fun a w ha' hw K hK => ?_
  have hrun := run_call (P := P) (dst := some d) (ts := ts) (ty := ty) (pos := pos) (af := af) (g := g) (w := w) hf (fun x u hx => ha'.eval hx) ha
  simp only [Oper.wp, hrun, Oper.upon_enter]
  refine (hC w hw).mono fun e' w' he => ?_
  obtain ⟨v, rfl, hx, ho⟩ := he
  have hbase : w'.ownsRow 0 e size v m xs := by
    obtain ⟨h1, h2⟩ := ho
    rcases h2 with h2 | ⟨g', cap, cur, hv, _, r⟩
    · exact ⟨h1, .inl h2⟩
    · exact ⟨h1, .inr ⟨g', cap, cur, hv, Nat.zero_le _, r⟩⟩
  refine hK _ _ (hr v ?_ _ _ (ha'.put hn _) ?_)
  · obtain ⟨_, h2⟩ := ho
    rcases h2 with ⟨h2, h3⟩ | ⟨g', cap, cur, hv, _, _, hm, hc, _⟩
    · exact .inl ⟨h2, h3⟩
    · exact .inr ⟨g', cap, hv, hm, hc⟩
  · have := Ws.turn (L := []) (L' := [osl e size v m xs]) (L2 := L) (by simpa using hw) (by simpa using hx) (by intro A hA; simp at hA; subst hA; exact hbase)
      (by cases hv : v.ownBlock <;> simp [osl, hv]) (by
        intro A hA k hk
        simp at hA; subst hA
        simp only [osl, Option.mem_toList] at hk
        obtain ⟨_, h2⟩ := ho
        rcases h2 with ⟨h2, _⟩ | ⟨g', cap, cur, hv, hb, _⟩
        · subst h2; simp [Value.ownBlock] at hk
        · subst hv; simp [Value.ownBlock] at hk; subst hk; exact .inr hb)
    simpa using this
theorem WL.asOsl {b m cap : Nat} {cur : Array Value} {e : TypeId} {size : Nat} (i : Nat) (hL : L[i]? = some (blk b (.cells cur e (0, 0)))) (hm : m ≤ cap) (hc : cap ≤ maxLen) (hs : cur.size = cap * size)
    (h : WL P ops Q n ds l (Ws w0 F (L.set i (osl e size (.slice (some ⟨b, 0, none⟩) m cap) m (cur.toList.take (m * size)))) Vs) rest) : WL P ops Q n ds l (Ws w0 F L Vs) rest :=
  WL.world (fun _ hw => hw.osl_blk i hL hm hc hs) h
/-- What is our own at the end, as new to whoever called. -/
theorem Ws.own_new {w0 w : World} {L : List Asr} {Vs : List View} (h : Ws w0 [] L Vs w) (i : Nat) {e : TypeId} {size m : Nat} {v : Value} {xs : List Value} (hL : L[i]? = some (osl e size v m xs)) : w.ownsRow w0.heap.size e size v m xs := by
  obtain ⟨h1, h2⟩ := (h.kn _ (mem_of_idx hL) : w.ownsRow 0 e size v m xs)
  refine ⟨h1, ?_⟩
  rcases h2 with h2 | ⟨b, cap, cur, rfl, _, r⟩
  · exact .inl h2
  · have ho := h.own _ (mem_of_idx hL) b (by simp [osl, Value.ownBlock])
    simp at ho
    exact .inr ⟨b, cap, cur, rfl, ho, r⟩
end
section
variable {P : Program} {l : List (Nat × Value)} {W : World → Prop} {d : Option Tmp} {ty : TypeId} {pos : String} {af : Array Edge} {g : Option (Nat × Bool)}
theorem yl_eqnil {t u : TypeId} {x : Operand} {a : Option Addr} {m c s : Nat} (hs : elemSz P t = some s) (hx : opv l x = some (.slice a m c)) : Yl P l W ⟨d, .binOp .eql t x (.const (.slice none 0 0)) u, ty, pos, af, g⟩ (.bool a.isNone) := by
  intro ρ w hρ _
  unfold elemSz at hs
  cases hu : P.underlying t with
  | none => simp [hu] at hs
  | some dd =>
    cases dd <;> simp [hu] at hs
    have hy : ρ (.const (.slice none 0 0)) = .slice none 0 0 := hρ _ _ rfl
    rename_i el
    have e : (binOp .eql t (.slice a m c) (.slice none 0 0)).run P w = .ok (.bool a.isNone) w := by
      simp only [binOp]
      simp [Op.equal, Op.maxDepth, Lib.run_equalIn_slice_nil w 9999 t el a m c 0 0 hu]
    simp only [execOp, hρ x _ hx, hy, eqGuard, Sem.run_bind]
    simp [e]
end
end Go.Bw
