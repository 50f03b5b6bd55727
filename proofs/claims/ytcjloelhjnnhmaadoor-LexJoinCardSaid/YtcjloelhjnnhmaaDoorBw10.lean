/- Own base: rules that step through the code of a function, with what is known of its slots and of the memory kept as a list; no condition. -/
import Derived.Test.YtcjloelhjnnhmaaDoorBw9
namespace Go.Bw
open Go Go.RowKit
section
variable {P : Program} {ops : Array Oper} {Q : Exit → Act → World → Prop} {n : Nat} {ds : List Deferred} {l l' : List (Nat × Value)} {W : World → Prop} {w0 : World} {F : List Nat} {L : List Asr} {Vs : List View}
  {rest : List Oper} {d : Nat} {ty : TypeId} {pos : String} {af : Array Edge} {g : Option (Nat × Bool)}
theorem WL.front {A : Asr} (i : Nat) (hL : L[i]? = some A) (h : WL P ops Q n ds l (Ws w0 F (A :: outOf i L) Vs) rest) : WL P ops Q n ds l (Ws w0 F L Vs) rest :=
  WL.world (fun _ hw => hw.perm (outOf_perm i L hL)) h
theorem WC.front {c : Code} {A : Asr} (i : Nat) (hL : L[i]? = some A) (h : WC P c Q n ds l (Ws w0 F (A :: outOf i L) Vs)) : WC P c Q n ds l (Ws w0 F L Vs) :=
  WC.world (fun _ hw => hw.perm (outOf_perm i L hL)) h
theorem Ws.self {w : World} {L1 L2 : List Asr} (h : Ws w0 F (L1 ++ L2) Vs w) : Ws w (L1.flatMap Asr.ids) L1 Vs w := by
  have nd := h.nd
  rw [List.flatMap_append, List.nodup_append] at nd
  exact ⟨Fr.refl _ _, fun A hA => h.kn A (by simp [hA]), nd.1, fun A hA k hk => .inl (List.mem_flatMap.2 ⟨A, hA, hk⟩), h.vs, fun H hH A hA => h.off H hH A (by simp [hA])⟩
theorem Ws.back {w w' : World} {L1 L1' L2 : List Asr} {Vs' : List View} (h : Ws w0 F (L1 ++ L2) Vs w) (g : Ws w (L1.flatMap Asr.ids) L1' Vs' w') : Ws w0 F (L1' ++ L2) Vs w' :=
  Ws.turn h g.fr g.kn g.nd g.own
/-- A call that turns the first k of our own things. -/
theorem WL.callw {ι : Type} {f : FuncId} {args : Array Operand} {ts : Array TypeId} {vs : List Value} (L1 L2 : List Asr) (hg : GOk ops l g) (hn : Nat.blt d n = true) (hf : Enters P f) (ha : evs l args.toList = some vs) (hL : L = L1 ++ L2)
    (v : ι → Value) (L1' : ι → List Asr) (R : ι → Prop) (Vs' : List View) (hV : ∀ H ∈ Vs', H ∈ Vs)
    (hC : ∀ w, Ws w (L1.flatMap Asr.ids) L1 Vs' w → Calls P f vs.toArray w fun e w' => ∃ i, e = .returned (v i) ∧ R i ∧ Ws w (L1.flatMap Asr.ids) (L1' i) Vs' w')
    (hr : ∀ i, R i → WL P ops Q n ds ((d, v i) :: l) (Ws w0 F (L1' i ++ L2) Vs) rest) :
    WL P ops Q n ds l (Ws w0 F L Vs) (⟨some d, .call ⟨.value (.func f), args, ts⟩, ty, pos, af, g⟩ :: rest) := by
  subst hL
  refine WL.call hg hn hf ha v (fun i w' => R i ∧ Ws w0 F (L1' i ++ L2) Vs w') (fun w hw => (hC w (hw.self.drops hV)).mono fun e w' ⟨i, he, hR, h⟩ => ⟨i, he, hR, hw.back h⟩) fun i => ?_
  intro a w ha' hw
  exact hr i hw.1 a w ha' hw.2
/-- The same where no result is handed back but nothing. -/
theorem WL.callw0 {f : FuncId} {args : Array Operand} {ts : Array TypeId} {vs : List Value} (L1 L2 L1' : List Asr) (hg : GOk ops l g) (hn : Nat.blt d n = true) (hf : Enters P f) (ha : evs l args.toList = some vs) (hL : L = L1 ++ L2)
    (Vs' : List View) (hV : ∀ H ∈ Vs', H ∈ Vs)
    (hC : ∀ w, Ws w (L1.flatMap Asr.ids) L1 Vs' w → Calls P f vs.toArray w fun e w' => e = .returned (.tuple #[]) ∧ Ws w (L1.flatMap Asr.ids) L1' Vs' w')
    (hr : WL P ops Q n ds ((d, .tuple #[]) :: l) (Ws w0 F (L1' ++ L2) Vs) rest) :
    WL P ops Q n ds l (Ws w0 F L Vs) (⟨some d, .call ⟨.value (.func f), args, ts⟩, ty, pos, af, g⟩ :: rest) :=
  WL.callw (ι := Unit) L1 L2 hg hn hf ha hL (fun _ => .tuple #[]) (fun _ => L1') (fun _ => True) Vs' hV (fun w hw => (hC w hw).mono fun e w' ⟨h1, h2⟩ => ⟨(), h1, trivial, h2⟩) (fun _ _ => hr)
end
/-- All that is there, as a view. -/
def hv (w : World) : View := fun b => w.heap[b]?
theorem hv_le (w : World) : Le (hv w) w := fun _ _ h => h
theorem hv_blk {w : World} {b k : Nat} {ob : Obj} {v : Value} (h : w.heap[b]? = some ob) (hc : cellIn ob k = some v) : vc (hv w) b k = some v := by simp [vc, hv, h, hc]
theorem hv_of {w : World} {H : View} (h : Le H w) : VLe H (hv w) := fun b o hb => h b o hb
theorem Ws.hvb {w0 w : World} {F : List Nat} {L : List Asr} {Vs : List View} (h : Ws w0 F L Vs w) (i : Nat) {b : Nat} {ob : Obj} (hL : L[i]? = some (blk b ob)) {k : Nat} {v : Value} (hc : cellIn ob k = some v) : vc (hv w) b k = some v :=
  hv_blk (h.kn _ (mem_of_idx hL)) hc
theorem Ws.hvo {w0 w : World} {F : List Nat} {L : List Asr} {Vs : List View} (h : Ws w0 F L Vs w) (i : Nat) {e : TypeId} {size m c b : Nat} {xs : List Value} (hL : L[i]? = some (osl e size (.slice (some ⟨b, 0, none⟩) m c) m xs)) {k : Nat} {v : Value} (hc : xs[k]? = some v) : vc (hv w) b k = some v := by
  obtain ⟨cur, hb, hxs, _⟩ := osl_cell (h.kn _ (mem_of_idx hL))
  refine hv_blk hb ?_
  rw [← hxs, List.getElem?_take] at hc
  split at hc
  · exact hc
  · cases hc
end Go.Bw
namespace Go.Bw
open Go Go.RowKit
section
variable {P : Program} {ops : Array Oper} {Q : Exit → Act → World → Prop} {n : Nat} {ds : List Deferred} {l l' : List (Nat × Value)} {W : World → Prop} {w0 : World} {F : List Nat} {L : List Asr} {Vs : List View} {rest : List Oper}
/-- A block's cells, said otherwise. -/
theorem WL.reblk {b : Nat} {ob : Obj} (i : Nat) (ob' : Obj) (hL : L[i]? = some (blk b ob)) (he : ob = ob') (h : WL P ops Q n ds l (Ws w0 F (L.set i (blk b ob')) Vs) rest) : WL P ops Q n ds l (Ws w0 F L Vs) rest := by
  subst he
  have : L.set i (blk b ob) = L := by
    obtain ⟨hi, he⟩ := List.getElem?_eq_some_iff.1 hL
    rw [← he]
    exact List.set_getElem_self hi
  rwa [this] at h
end
theorem made_one (v : Value) (hv : v.cells = #[v]) (k : Nat) : madeCells v.cells (((k : Nat) : Int).toNat * 1) = (List.replicate k v).toArray := by
  rw [Int.toNat_natCast]; exact madeCells_one v hv k
theorem Ws.sl_map {α : Type} {w0 w : World} {L : List Asr} {Vs : List View} (h : Ws w0 [] L Vs w) (i : Nat) {b : Nat} {f : α → Value} {l : List α} {T : TypeId} {fz : Nat × Nat} (hL : L[i]? = some (blk b (.cells (l.map f).toArray T fz)))
    {rd : View → Nat → Nat → α → Prop} (hrd : ∀ H b o x, vc H b o = some (f x) → rd H b o x) {l' : List α} {c : Nat} (hc : l'.length ≤ c) (hm : c ≤ 9223372036854775807) (hp : ∀ (j : Nat) (x : α), l'[j]? = some x → l[j]? = some x) : Sl rd 1 (nv w0 w) (some ⟨b, 0, none⟩) c l' :=
  ⟨hc, hm, by simp, fun j x hx => ⟨b, 0, rfl, hrd _ _ _ _ (h.nvc i hL (by simp [cellIn, hp j x hx]))⟩⟩
end Go.Bw
