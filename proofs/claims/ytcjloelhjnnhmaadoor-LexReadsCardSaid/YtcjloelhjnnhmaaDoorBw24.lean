/- Own base: rules that step through the code of a function, with what is known of its slots and of the memory kept as a list; no condition. -/
import Derived.Test.YtcjloelhjnnhmaaDoorBw23
namespace Go.Bw
set_option linter.unusedVariables false
set_option linter.unnecessarySimpa false
set_option linter.unusedSimpArgs false
open Go Go.RowKit

/-! ### Families: their first thing goes, or comes -/
section
variable {P : Program} {ops : Array Oper} {Q : Exit → Act → World → Prop} {n : Nat} {ds : List Deferred} {l : List (Nat × Value)} {w0 w : World} {F : List Nat} {L : List Asr} {Vs : List View} {rest : List Oper} {A : Asr} {As : List Asr}
theorem Ws.fam_tail (h : Ws w0 F L Vs w) (i : Nat) (hL : L[i]? = some (fam (A :: As))) : Ws w0 F (L.set i (fam As)) Vs w := by
  have h1 := (h.perm (outOf_perm i L hL)).fam_open
  have h2 : Ws w0 F (fam As :: outOf i L) Vs w := Ws.drop (L := [A]) h1
  exact h2.perm (set_perm i L hL)
theorem Ws.fam_nilcons (h : Ws w0 F L Vs w) (i : Nat) (hL : L[i]? = some (fam As)) (e : TypeId) (size : Nat) : Ws w0 F (L.set i (fam (osl e size (.slice none 0 0) 0 [] :: As))) Vs w := by
  have h1 := (h.perm (outOf_perm i L hL)).osl_nil e size
  have h2 := h1.fam_shut
  exact h2.perm (set_perm i L hL)
theorem Ws.fronti (h : Ws w0 F L Vs w) (i : Nat) (hL : L[i]? = some A) : Ws w0 F (A :: outOf i L) Vs w := h.perm (outOf_perm i L hL)
/-- append(nil, make([]T, n)...): zeros, and room. -/
theorem WL.zeros {t tn e : TypeId} {z : Value} {kn k : IntKind} {bytes d : Nat} {x y : Operand} {ty : TypeId} {pos : String} {af : Array Edge} {g : Option (Nat × Bool)} (m : Nat) (hg : GOk ops l g) (hn : Nat.blt d n = true) (hE : EltOk P t e z 1 bytes) (htn : P.underlying tn = some (.int kn))
    (hx : opv l x = some (.slice none 0 0)) (hy : opv l y = some (.int k (m : Int))) (h0 : 0 < m) (h63 : m ≤ maxLen) (h48 : m * bytes ≤ 281474976710656)
    (h : ∀ b c cur, m ≤ c → c ≤ maxLen → cur.size = c → WL P ops Q n ds ((d, .slice (some ⟨b, 0, none⟩) m c) :: l) (Ws w0 F (blk b (.cells cur e (0, 0)) :: L) Vs) rest) :
    WL P ops Q n ds l (Ws w0 F L Vs) (⟨some d, .call ⟨.builtin .append, #[x, y], #[t, tn]⟩, ty, pos, af, g⟩ :: rest) := by
  refine WL.step hg fun a w ha hw K hK => ?_
  obtain ⟨inf, hi, hz, hsz, hbt⟩ := hE.info
  have hrun := Lib.run_append_nil_zeros (P := P) w t tn ty e inf z k kn hE.under htn hi hz m h0 (by omega) (by unfold maxLen at h63; omega) (by rw [hbt]; exact h48)
  have hrun' : (execOp a.eval ⟨some d, .call ⟨.builtin .append, #[x, y], #[t, tn]⟩, ty, pos, af, g⟩).run P w = .ok (.value (.slice (some ⟨w.heap.size, 0, none⟩) m (grownCap w m 0 e))) (w.drew.alloc (.cells (Builtin.zeroCells z.cells m ++ Builtin.zeroCells z.cells (grownCap w m 0 e - m)) e)) := by
    simp only [execOp, resolve, List.map_toArray, List.map_cons, List.map_nil, ha.eval hx, ha.eval hy, Sem.run_bind, Sem.run_pure, Result.andThen_ok, invoke, builtin, hrun]
  simp only [Oper.wp, hrun', Oper.upon_value]
  have hge := grownCap_ge w m 0 e
  refine hK _ _ (h w.heap.size _ (Builtin.zeroCells z.cells m ++ Builtin.zeroCells z.cells (grownCap w m 0 e - m)) hge (grownCap_le_maxLen w m 0 e h63) ?_ _ _ (ha.put hn _) ?_)
  · have hz1 : z.cells.size = 1 := hE.zs
    simp [Builtin.zeroCells, hz1]; omega
  · exact hw.drew.alloc _
end
section
variable {P : Program} {l : List (Nat × Value)} {W : World → Prop} {d : Option Tmp} {ty : TypeId} {pos : String} {af : Array Edge} {g : Option (Nat × Bool)}
theorem yl_cap {t : TypeId} {x : Operand} {a : Option Addr} {n c s : Nat} (hs : elemSz P t = some s) (hx : opv l x = some (.slice a n c)) : Yl P l W ⟨d, .call ⟨.builtin .cap, #[x], #[t]⟩, ty, pos, af, g⟩ (.int .i64 (c : Int)) := by
  intro ρ w hρ _
  unfold elemSz at hs
  cases hu : P.underlying t with
  | none => simp [hu] at hs
  | some dd =>
    cases dd <;> simp [hu] at hs
    simp [execOp, resolve, invoke, builtin, hρ x _ hx, Builtin.cap_, run_underlying hu, goInt]
end
end Go.Bw
