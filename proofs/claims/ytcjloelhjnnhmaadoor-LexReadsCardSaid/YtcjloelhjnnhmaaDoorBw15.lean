/- Own base: rules that step through the code of a function, with what is known of its slots and of the memory kept as a list; no condition. -/
import Derived.Test.YtcjloelhjnnhmaaDoorBw14
import Derived.WideMake
import Derived.MapKept
set_option linter.unusedSimpArgs false
namespace Go.Bw
open Go Go.RowKit

/-! ### Maps from texts, of our own -/
abbrev MEnt := List UInt8 × Value × Nat
def ment (e : MEnt) : MapEntry := { key := st e.1, val := e.2.1, born := e.2.2 }
def mobj (m : List MEnt) (c : Nat) : Obj := .map (m.map ment).toArray c
def mfind (k : List UInt8) : List MEnt → Nat → Option (Nat × Value)
  | [], _ => none
  | e :: r, i => if (k == e.1) = true then some (i, e.2.1) else mfind k r (i + 1)
def mput (k : List UInt8) (v : Value) (m : List MEnt) (c : Nat) : List MEnt := match mfind k m 0 with
  | some (i, _) => m.modify i fun e => (k, v, e.2.2)
  | none => m ++ [(k, v, c)]
def mclock (k : List UInt8) (m : List MEnt) (c : Nat) : Nat := match mfind k m 0 with | some _ => c | none => c + 1
def mget (k : List UInt8) (m : List MEnt) (z : Value) : Value := match mfind k m 0 with | some (_, v) => v | none => z
theorem st_beq (a b : List UInt8) : (ByteArray.mk a.toArray == ByteArray.mk b.toArray) = (a == b) := by
  show (a.toArray == b.toArray) = _
  simp
theorem map_modify (m : List MEnt) (j : Nat) (k : List UInt8) (v : Value) : (m.map ment).modify j (fun e => { e with key := st k, val := v }) = (m.modify j fun e => (k, v, e.2.2)).map ment := by
  apply List.ext_getElem?
  intro i
  simp only [List.getElem?_modify, List.getElem?_map]
  cases m[i]? with
  | none => simp
  | some e => by_cases h : j = i <;> simp [h, ment]
theorem findNow_st (k : List UInt8) : ∀ (m : List MEnt) (i : Nat), Instr.findNow .string (st k) (m.map ment) i = some (mfind k m i)
  | [], _ => rfl
  | e :: r, i => by
    simp only [List.map_cons, Instr.findNow, ment, st, Instr.sameNow, st_beq, mfind]
    cases h : (k == e.1)
    · simp only [Bool.false_eq_true, if_false]
      exact findNow_st k r (i + 1)
    · simp
section
variable {P : Program} {ops : Array Oper} {Q : Exit → Act → World → Prop} {n : Nat} {ds : List Deferred} {l : List (Nat × Value)} {w0 : World} {F : List Nat} {L : List Asr} {Vs : List View} {rest : List Oper} {d : Nat} {ty : TypeId} {pos : String} {af : Array Edge} {g : Option (Nat × Bool)}
theorem WL.mkmap {t : TypeId} (hg : GOk ops l g) (hn : Nat.blt d n = true)
    (h : ∀ b, WL P ops Q n ds ((d, .map (some b)) :: l) (Ws w0 F (blk b (mobj [] 0) :: L) Vs) rest) :
    WL P ops Q n ds l (Ws w0 F L Vs) (⟨some d, .makeMap t none, ty, pos, af, g⟩ :: rest) :=
  WL.new (mk := fun b => .map (some b)) (o := mobj [] 0) hg hn (fun ρ w _ _ => by
    simp only [execOp]
    simp [Instr.makeMap, mobj]) h
theorem yl_mlook {dd : Option Tmp} {t kt e : TypeId} {x y : Operand} {b c : Nat} {m : List MEnt} {k : List UInt8} {z : Value} (i : Nat) (ht : P.underlying t = some (.map kt e)) (hk : P.underlying kt = some .string) (hz : zeroOf P e = some z) (hx : opv l x = some (.map (some b))) (hy : opv l y = some (st k)) (hL : L[i]? = some (blk b (mobj m c))) :
    Yl P l (Ws w0 F L Vs) ⟨dd, .lookup t x y false, ty, pos, af, g⟩ (mget k m z) := by
  intro ρ w hρ hw
  have hb : w.heap[b]? = some (.map (m.map ment).toArray c) := hw.kn _ (mem_of_idx hL)
  have hf := findNow_st k m 0
  have hc : (Instr.checkKey (m.map ment).toArray.isEmpty 10000 kt (st k)).run P w = .ok () w := MapKept.run_checkKey (k := st k) hk (by simp [MapKept.IsKey, st]) _ 9999
  have e1 : (Instr.lookup t (.map (some b)) (st k) false).run P w = .ok (mget k m z) w := by
    simp only [Instr.lookup, Sem.run_bind, run_underlying ht, Result.andThen_ok, MapKept.run_getObj_map hb, Sem.run_pure, hc]
    rw [MapKept.run_findKey hk (by simpa using hf)]
    unfold mget
    cases hm : mfind k m 0 with
    | none => simp [Result.andThen_ok, run_zero hz]
    | some r => obtain ⟨i, v⟩ := r; simp [Result.andThen_ok]
  simp [execOp, hρ x _ hx, hρ y _ hy, e1]
theorem yl_mlen {dd : Option Tmp} {t kt e : TypeId} {x : Operand} {b c : Nat} {m : List MEnt} (i : Nat) (ht : P.underlying t = some (.map kt e)) (hx : opv l x = some (.map (some b))) (hL : L[i]? = some (blk b (mobj m c))) :
    Yl P l (Ws w0 F L Vs) ⟨dd, .call ⟨.builtin .len, #[x], #[t]⟩, ty, pos, af, g⟩ (.int .i64 (m.length : Int)) := by
  intro ρ w hρ hw
  have hb : w.heap[b]? = some (.map (m.map ment).toArray c) := hw.kn _ (mem_of_idx hL)
  simp [execOp, resolve, invoke, builtin, hρ x _ hx, Builtin.len_, run_underlying ht, MapKept.run_getObj_map hb, goInt]
theorem WL.mset {t kt e : TypeId} {x y u : Operand} {b c : Nat} {m : List MEnt} {k : List UInt8} {v : Value} (i : Nat) (hg : GOk ops l g) (ht : P.underlying t = some (.map kt e)) (hk : P.underlying kt = some .string) (hx : opv l x = some (.map (some b))) (hy : opv l y = some (st k)) (hu : opv l u = some v) (hL : L[i]? = some (blk b (mobj m c)))
    (h : WL P ops Q n ds l (Ws w0 F (L.set i (blk b (mobj (mput k v m c) (mclock k m c)))) Vs) rest) :
    WL P ops Q n ds l (Ws w0 F L Vs) (⟨none, .mapUpdate t x y u, ty, pos, af, g⟩ :: rest) := by
  refine WL.step hg fun a w ha hw K hK => ?_
  have hb : w.heap[b]? = some (.map (m.map ment).toArray c) := hw.kn _ (mem_of_idx hL)
  have hf := findNow_st k m 0
  have hc : (Instr.checkKey false 10000 kt (st k)).run P w = .ok () w := MapKept.run_checkKey (k := st k) hk (by simp [MapKept.IsKey, st]) _ 9999
  have e1 : (Instr.mapUpdate t (.map (some b)) (st k) v).run P w = .ok () { w with heap := w.heap.setIfInBounds b (mobj (mput k v m c) (mclock k m c)) } := by
    simp only [Instr.mapUpdate, Sem.run_bind, run_underlying ht, Result.andThen_ok, MapKept.run_getObj_map hb, Sem.run_pure, hc]
    rw [MapKept.run_findKey hk (by simpa using hf)]
    unfold mput mclock
    cases hm : mfind k m 0 with
    | none => simp [Result.andThen_ok, MapKept.run_setObj_map _ hb, mobj, ment, st]
    | some r => 
      obtain ⟨j, v'⟩ := r
      have hkey : m[j]?.map (·.1) = some k := by
        have key : ∀ (m : List MEnt) (i0 : Nat), mfind k m i0 = some (j, v') → i0 ≤ j ∧ (m[j - i0]?).map (·.1) = some k := by
          intro m
          induction m with
          | nil => intro i0 h; simp [mfind] at h
          | cons e r ih =>
            intro i0 h
            simp only [mfind] at h
            split at h
            · rename_i hk
              injection h with h; injection h with h1 h2
              subst h1
              simp at hk
              simp [hk]
            · obtain ⟨h1, h2⟩ := ih (i0 + 1) h
              refine ⟨by omega, ?_⟩
              have : j - i0 = (j - (i0 + 1)) + 1 := by omega
              rw [this]; simpa using h2
        simpa using (key m 0 hm).2
      have hst : ((((m.map ment).toArray)[j]?).map (·.key)).getD (st k) = st k := by
        cases he : m[j]? with
        | none => simp [he]
        | some e => rw [he] at hkey; simp at hkey; simp [he, ment, hkey]
      simp only [hst, Result.andThen_ok]
      have hkeep : (Instr.keyThatStays (st k) (st k)).run P w = .ok (st k) w := by
        simp [Instr.keyThatStays, Instr.sameBits, st, st_beq]
      simp only [Sem.run_bind, hkeep, Result.andThen_ok, MapKept.run_setObj_map _ hb, mobj]
      have hmm : (m.map ment).toArray.modify j (fun e => { e with key := st k, val := v }) = ((m.modify j fun e => (k, v, e.2.2)).map ment).toArray := by
        apply Array.ext'
        rw [Array.toList_modify]
        exact map_modify m j k v
      rw [hmm]
  have hrun' : (execOp a.eval ⟨none, .mapUpdate t x y u, ty, pos, af, g⟩).run P w = .ok .skip { w with heap := w.heap.setIfInBounds b (mobj (mput k v m c) (mclock k m c)) } := by
    simp only [execOp, ha.eval hx, ha.eval hy, ha.eval hu, Sem.run_bind, e1, Result.andThen_ok, Sem.run_pure]
  simp only [Oper.wp, hrun', Oper.upon_skip]
  refine hK _ _ (h _ _ (ha.put_none undef) ?_)
  refine Ws.turn1 hw i hL ⟨rfl, rfl, rfl, by simp, fun j hj hne => ?_⟩ ?_ (by simp [blk]) (by simp [blk])
  · have : b ≠ j := fun e => hne (by simp [blk, e])
    simp [Array.getElem?_setIfInBounds_ne this]
  · show (w.heap.setIfInBounds b _)[b]? = _
    simp [lt_of_heap hb]
theorem WL.slcm {e : TypeId} {size m : Nat} {v : Value} {xs : List Value} (i : Nat) (hL : L[i]? = some (osl e size v m xs))
    (h : ∀ a k, v = .slice a m k → WL P ops Q n ds l (Ws w0 F L Vs) rest) : WL P ops Q n ds l (Ws w0 F L Vs) rest := by
  intro a w ha hw
  obtain ⟨h1, h2⟩ := (hw.kn _ (mem_of_idx hL) : w.ownsRow 0 e size v m xs)
  rcases h2 with ⟨h3, h4⟩ | ⟨b, cap, cur, hv, _⟩
  · exact h none 0 (by rw [h3, h4]) a w ha hw
  · exact h _ _ hv a w ha hw
end
theorem own_sl {α : Type} {rd : View → Nat → Nat → α → Prop} {f : α → Value} (hrd : ∀ H b o x, vc H b o = some (f x) → rd H b o x) {w0 w : World} {F : List Nat} {L : List Asr} {Vs : List View} (h : Ws w0 F L Vs w) (i : Nat) {m c e : Nat} {a : Option Addr} {xs : List α} (hL : L[i]? = some (osl e 1 (.slice a m c) m (xs.map f))) (hm : xs.length = m) : Sl rd 1 (hv w) a c xs := by
  obtain ⟨h1, h2⟩ := (h.kn _ (mem_of_idx hL) : w.ownsRow 0 e 1 (.slice a m c) m (xs.map f))
  rcases h2 with ⟨h3, h4⟩ | ⟨b, cap, cur, h5, _, _, hmc, hc, _⟩
  · injection h3 with h5 _ h6
    subst h5 h6
    have : xs = [] := List.eq_nil_of_length_eq_zero (by omega)
    subst this
    exact Sl.nil
  · injection h5 with h5 _ h6
    subst h5 h6
    exact ⟨by omega, by unfold maxLen at hc; omega, by simp, fun j x hj => ⟨b, 0, rfl, hrd _ _ _ _ (h.hvo i hL (by simp [hj]))⟩⟩
end Go.Bw
