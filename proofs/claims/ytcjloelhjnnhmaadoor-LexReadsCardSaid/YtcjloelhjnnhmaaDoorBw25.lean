/- Own base: rules that step through the code of a function, with what is known of its slots and of the memory kept as a list; no condition. -/
import Derived.Test.YtcjloelhjnnhmaaDoorBw24
import Derived.Deep.Upon
namespace Go.Bw
set_option linter.unusedVariables false
set_option linter.unnecessarySimpa false
set_option linter.unusedSimpArgs false
open Go Go.RowKit

/-! ### A row is laid behind an own row -/
section
variable {P : Program} {ops : Array Oper} {Q : Exit → Act → World → Prop} {n : Nat} {ds : List Deferred} {l : List (Nat × Value)} {w0 w : World} {F : List Nat} {L : List Asr} {Vs : List View} {rest : List Oper}
  {ty : TypeId} {pos : String} {af : Array Edge} {g : Option (Nat × Bool)} {d : Nat}
theorem WL.appendL {α : Type} {f : α → List Value} {rd : View → Nat → Nat → α → Prop} {t e : TypeId} {z : Value} {size bytes : Nat} {s y : Operand} {a a2 : Option Addr} {c c2 : Nat} {xs ys : List α} (i : Nat) (H : World → View) (hg : GOk ops l g) (hn : Nat.blt d n = true) (hE : EltOk P t e z size bytes)
    (hs : opv l s = some (.slice a xs.length c)) (hy : opv l y = some (.slice a2 ys.length c2)) (hL : L[i]? = some (osT e size f a c xs)) (hH : ∀ w, Ws w0 F L Vs w → Le (H w) w ∧ Sl rd size (H w) a2 c2 ys) (hrd : ∀ H b o x, rd H b o x → RdC H b o (f x))
    (hf : ∀ x, (f x).length = size) (h1 : ∀ x, (f x).all (·.oneCell') = true) (h63 : xs.length + ys.length ≤ 9223372036854775807) (hby : (xs.length + ys.length) * bytes ≤ 140737488355328)
    (h : ∀ a' c', WL P ops Q n ds ((d, .slice a' (xs ++ ys).length c') :: l) (Ws w0 F (L.set i (osT e size f a' c' (xs ++ ys))) Vs) rest) :
    WL P ops Q n ds l (Ws w0 F L Vs) (⟨some d, .call ⟨.builtin .append, #[s, y], #[t, t]⟩, ty, pos, af, g⟩ :: rest) := by
  cases a2 with
  | none =>
    refine WL.step hg fun A w hA hw K hK => ?_
    obtain ⟨inf, hi, hz, hsz, hbt⟩ := hE.info
    obtain ⟨_, hsl⟩ := hH w hw
    have hys : ys = [] := by
      cases ys with
      | nil => rfl
      | cons x r => obtain ⟨b, o, hb, _⟩ := hsl.elt 0 x rfl; cases hb
    subst hys
    have hown : w.ownsRow 0 e size (.slice a xs.length c) xs.length (xs.flatMap f) := hw.kn _ (mem_of_idx hL)
    have hcap : xs.length ≤ c := by
      rcases hown.2 with ⟨h3, _⟩ | ⟨b, cap, cur, hv, _, _, hmc, _⟩
      · injection h3 with _ h4 h5; omega
      · injection hv with _ _ h5; omega
    have hrun := run_append_nothing (P := P) w t t ty e inf hE.under hi a xs.length c hcap (.slice none 0 c2) ⟨.inl ⟨e, hE.under⟩, by simp [Builtin.lenOf], run_firstCells_none w _ 0 0 c2, run_firstCells_none w.drew _ 0 0 c2, by simp, by simp⟩
    have hrun' : (execOp A.eval ⟨some d, .call ⟨.builtin .append, #[s, y], #[t, t]⟩, ty, pos, af, g⟩).run P w = .ok (.value (.slice a xs.length c)) w := by
      simp only [execOp, resolve, List.map_toArray, List.map_cons, List.map_nil, hA.eval hs, hA.eval hy, Sem.run_bind, Sem.run_pure, Result.andThen_ok, invoke, builtin, List.length_nil, hrun]
    simp only [Oper.wp, hrun', Oper.upon_value]
    have hi' : i < L.length := (List.getElem?_eq_some_iff.1 hL).1
    have hset : L.set i (osT e size f a c xs) = L := by
      rw [← (List.getElem?_eq_some_iff.1 hL).2]; exact List.set_getElem_self hi'
    have hh := h a c
    simp only [List.append_nil] at hh
    rw [hset] at hh
    exact hK _ _ (hh _ _ (hA.put hn _) hw)
  | some p =>
    have e1 : (xs.flatMap f) ++ ys.flatMap f = (xs ++ ys).flatMap f := by simp
    have e2 : xs.length + ys.length = (xs ++ ys).length := by simp
    refine WL.append i hg hn hE hs hy hL (news := ys.flatMap f) (k := ys.length) (flat_length hf ys) (fun w hw k u hu => ?_) (fun u hu => ?_) (by unfold maxLen; omega) hby fun v' _ => ?_
    · obtain ⟨hle, hsl⟩ := hH w hw
      have hk := (List.getElem?_eq_some_iff.1 hu).1
      have hy0 : 0 < ys.length := by
        cases ys with
        | nil => simp at hk
        | cons x r => simp
      obtain ⟨b, o, hb, _⟩ := hsl.elt 0 _ (List.getElem?_eq_getElem hy0)
      injection hb with hb
      subst hb
      rw [add_none]
      have hpos := hE.pos
      exact hle.cell (hsl.flat hf hpos (hrd _) k u hu)
    · obtain ⟨x, _, hx⟩ := List.mem_flatMap.1 hu
      exact List.all_eq_true.1 (h1 x) u hx
    · rw [e1, e2]
      have hi : i < L.length := (List.getElem?_eq_some_iff.1 hL).1
      refine WL.slcm i (m := (xs ++ ys).length) (xs := (xs ++ ys).flatMap f) (e := e) (size := size) (v := v') (by simp [hi]) fun a' c' hv => ?_
      subst hv
      exact h a' c'
/-- A call that hands new own things over, and turns nothing. -/
theorem WL.calln {ι : Type} {f : FuncId} {args : Array Operand} {ts : Array TypeId} {vs : List Value} (hg : GOk ops l g) (hn : Nat.blt d n = true) (hf : Enters P f) (ha : evs l args.toList = some vs)
    (v : ι → Value) (L1' : ι → List Asr) (R : ι → Prop)
    (hC : ∀ w, Ws w0 F L Vs w → Calls P f vs.toArray w fun e w' => ∃ i, e = .returned (v i) ∧ R i ∧ Ws w [] (L1' i) [] w')
    (hr : ∀ i, R i → WL P ops Q n ds ((d, v i) :: l) (Ws w0 F (L1' i ++ L) Vs) rest) :
    WL P ops Q n ds l (Ws w0 F L Vs) (⟨some d, .call ⟨.value (.func f), args, ts⟩, ty, pos, af, g⟩ :: rest) := by
  refine WL.call hg hn hf ha v (fun i w' => R i ∧ Ws w0 F (L1' i ++ L) Vs w') (fun w hw => (hC w hw).mono fun e w' ⟨i, he, hR, h⟩ => ⟨i, he, hR, ?_⟩) fun i => ?_
  · exact Ws.turn (L := []) (L' := L1' i) (L2 := L) (by simpa using hw) (by simpa using h.fr) h.kn h.nd (fun A hA k hk => by
      rcases h.own A hA k hk with h1 | h1
      · simp at h1
      · exact .inr h1)
  · intro a w ha' hw
    exact hr i hw.1 a w ha' hw.2
end
end Go.Bw
