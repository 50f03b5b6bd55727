/- Own base: rules that step through the code of a function, with what is known of its slots and of the memory kept as a list; no condition. -/
import Derived.Test.YtcjloelhjnnhmaaDoorBw12
import Derived.Lib.Builder
import Derived.Lib.AppendStr
import Derived.Lib.UnsafeStr
import Derived.Laws.BytesString
import Derived.Laws.Externs
import Derived.Laws.Pointers
import Derived.LaidEql
set_option linter.unusedSimpArgs false
namespace Go.Bw
open Go Go.RowKit

/-! ### Bytes, texts that are built, pointers that are turned -/
def byv (b : UInt8) : Value := .int .u8 (b.toNat : Int)
theorem strCells_st (l : List UInt8) : Lib.strCells ⟨l.toArray⟩ = l.map byv := by simp [Lib.strCells, byv, Function.comp_def]
theorem size_st (l : List UInt8) : (ByteArray.mk l.toArray).size = l.length := by show l.toArray.size = _; simp
theorem shape_cells {w : World} {b : Nat} {c : Array Value} {T : TypeId} {fz : Nat × Nat} (h : w.heap[b]? = some (.cells c T fz)) : w.shape? b = some (T, c.size) := by simp [World.shape?, h]
section
variable {P : Program} {l : List (Nat × Value)} {W : World → Prop} {w0 : World} {F : List Nat} {L : List Asr} {Vs : List View} {d : Option Tmp} {ty : TypeId} {pos : String} {af : Array Edge} {g : Option (Nat × Bool)}
theorem yl_cvi {s t : TypeId} {k1 k k2 : IntKind} {x : Operand} {n : Int} (hs : P.underlying s = some (.int k1)) (ht : P.underlying t = some (.int k2)) (hx : opv l x = some (.int k n)) : Yl P l W ⟨d, .convert s t x, ty, pos, af, g⟩ (.int k2 (k2.wrap n)) := by
  intro ρ w hρ _
  simp [execOp, hρ x _ hx, convert, run_underlying hs, run_underlying ht, Conv.intToInt]
theorem yl_cvp {s t u : TypeId} {x : Operand} {b o : Nat} {c : Array Value} {T : TypeId} {fz : Nat × Nat} {j : Nat} (i : Nat) (hs : P.underlying s = some (.pointer u)) (ht : P.underlying t = some .unsafePointer) (hu : sizeP P u = some (j + 1)) (hL : L[i]? = some (blk b (.cells c T fz))) (ho : Nat.blt o c.toList.length = true)
    (hx : opv l x = some (.pointer (some ⟨b, o, none⟩))) : Yl P l (Ws w0 F L Vs) ⟨d, .convert s t x, ty, pos, af, g⟩ (.pointer (some ⟨b, o, none⟩)) := by
  intro ρ w hρ hw
  obtain ⟨inf, hi, hz⟩ := Option.map_eq_some_iff.1 hu
  have hsh := shape_cells (hw.kn _ (mem_of_idx hL) : w.heap[b]? = some (.cells c T fz))
  have e := Lib.run_to_unsafe (P := P) w ⟨b, o, none⟩ hs ht hi (by omega) hsh (by have := Nat.blt_eq.mp ho; simpa using this)
  simp [execOp, hρ x _ hx, e]
theorem yl_cvq {s t u : TypeId} {x : Operand} {b o : Nat} {c : Array Value} {T : TypeId} {fz : Nat × Nat} {j n : Nat} (i : Nat) (hs : P.underlying s = some .unsafePointer) (ht : P.underlying t = some (.pointer u)) (hu : sizeP P u = some j) (hL : L[i]? = some (blk b (.cells c T fz)))
    (hn : c.toList.length = n) (hl : liesAt P P.depth T (n / P.cellsOf T) o u 1 = true)
    (hx : opv l x = some (.pointer (some ⟨b, o, none⟩))) : Yl P l (Ws w0 F L Vs) ⟨d, .convert s t x, ty, pos, af, g⟩ (.pointer (some ⟨b, o, none⟩)) := by
  intro ρ w hρ hw
  obtain ⟨inf, hi, hz⟩ := Option.map_eq_some_iff.1 hu
  have hsh := shape_cells (hw.kn _ (mem_of_idx hL) : w.heap[b]? = some (.cells c T fz))
  have hn' : c.size = n := by simpa using hn
  have e := Lib.run_from_unsafe (P := P) w ⟨b, o, none⟩ hs ht hi hsh (by rw [hn']; exact hl)
  simp [execOp, hρ x _ hx, e]
/-- A call that only hands its argument on. -/
theorem yl_same {f : FuncId} {x : Operand} {v : Value} {ts : Array TypeId} (hf : ∀ (u : Value) (w : World), (callFunc f #[u]).run P w = .ok (.value u) w) (hx : opv l x = some v) : Yl P l W ⟨d, .call ⟨.value (.func f), #[x], ts⟩, ty, pos, af, g⟩ v := by
  intro ρ w hρ _
  have hc : ρ (.func f) = .func (.func f) #[] #[] := hρ _ _ rfl
  simp [execOp, resolve, Deferred.ofValue, invoke, hρ x _ hx, hc, hf]
theorem same_of {f : FuncId} {fn : Func} (hf : P.funcs[f]? = some fn) (hname : (fn.name == "runtime.NumGoroutine") = false) (hb : fn.body.isNone = true) (hn : Extern.findNext fn = none) (he : Extern.find fn = some Extern.AbiNoEscape.same) :
    ∀ (u : Value) (w : World), (callFunc f #[u]).run P w = .ok (.value u) w := by
  intro u w
  rw [run_callFunc_extern hf hname hb hn he, Lib.run_noEscape]; rfl
theorem yl_eqpn {t u e : TypeId} {x : Operand} {q : Option Addr} (ht : P.underlying t = some (.pointer e)) (hx : opv l x = some (.pointer q)) : Yl P l W ⟨d, .binOp .eql t x (.const (.pointer none)) u, ty, pos, af, g⟩ (.bool q.isNone) := by
  intro ρ w hρ _
  have hy : ρ (.const (.pointer none)) = .pointer none := hρ _ _ rfl
  have hp : P.underlying t = some (.pointer (P.pointee t)) := by rw [ht]; simp [Program.pointee, ht]
  have e1 := run_eql_pointer_nil (P := P) w t q hp
  simp only [execOp, hρ x _ hx, hy, eqGuard, Sem.run_bind]
  simp [e1]
theorem yl_nepn {t u e : TypeId} {x : Operand} {q : Option Addr} (ht : P.underlying t = some (.pointer e)) (hx : opv l x = some (.pointer q)) : Yl P l W ⟨d, .binOp .neq t x (.const (.pointer none)) u, ty, pos, af, g⟩ (.bool (!q.isNone)) := by
  intro ρ w hρ _
  have hy : ρ (.const (.pointer none)) = .pointer none := hρ _ _ rfl
  have hp : P.underlying t = some (.pointer (P.pointee t)) := by rw [ht]; simp [Program.pointee, ht]
  have e1 := run_neq_pointer_nil (P := P) w t q hp
  simp only [execOp, hρ x _ hx, hy, eqGuard, Sem.run_bind]
  simp [e1]
theorem run_equalIn_self {t e : TypeId} {a : Addr} {k : Nat} (ht : P.underlying t = some (.pointer e)) (hs : sizeP P e = some (k + 1)) (w : World) (m : Nat) : (Op.equalIn (m + 1) t (.pointer (some a)) (.pointer (some a))).run P w = .ok true w := by
  obtain ⟨inf, hi, hz⟩ := Option.map_eq_some_iff.1 hs
  have hne : inf.size ≠ 0 := by omega
  simp only [Op.equalIn, Sem.run_bind, run_underlying ht, Result.andThen_ok, sizeOf, typeInfo]
  simp [hi, hne, run_sameAddr_same]
theorem yl_neps {t u e : TypeId} {x y : Operand} {a : Addr} {j : Nat} (ht : P.underlying t = some (.pointer e)) (hs : sizeP P e = some (j + 1)) (hx : opv l x = some (.pointer (some a))) (hy : opv l y = some (.pointer (some a))) : Yl P l W ⟨d, .binOp .neq t x y u, ty, pos, af, g⟩ (.bool false) := by
  intro ρ w hρ _
  have e2 := run_equalIn_self (P := P) (a := a) ht hs w 9999
  have e1 : (binOp .neq t (.pointer (some a)) (.pointer (some a))).run P w = .ok (.bool false) w := by
    simp only [binOp]
    have e3 : (Op.equal t (.pointer (some a)) (.pointer (some a))).run P w = .ok true w := e2
    simp [e3]
  simp only [execOp, hρ x _ hx, hρ y _ hy, eqGuard, Sem.run_bind]
  simp [e1]
theorem yl_shr {t u : TypeId} {x y : Operand} {k k2 : IntKind} {n m : Int} (hx : opv l x = some (.int k n)) (hy : opv l y = some (.int k2 m)) (hm : 0 ≤ m) : Yl P l W ⟨d, .binOp .shr t x y u, ty, pos, af, g⟩ (.int k (n.fdiv (2 ^ (min m.toNat k.bits)))) := by
  intro ρ w hρ _
  have : ¬ m < 0 := by omega
  simp [execOp, hρ x _ hx, hρ y _ hy, eqGuard, binOp, Op.shift, this]
/-- unsafe.SliceData of a slice with room: its first place. -/
theorem yl_sld {x : Operand} {ts : Array TypeId} {a : Addr} {n c : Nat} (hc : c ≠ 0) (hx : opv l x = some (.slice (some a) n c)) : Yl P l W ⟨d, .call ⟨.builtin .unsafeSliceData, #[x], ts⟩, ty, pos, af, g⟩ (.pointer (some a)) := by
  intro ρ w hρ _
  simp [execOp, resolve, invoke, builtin, hρ x _ hx, Lib.run_unsafeSliceData_row w _ _ a n c hc]
/-- A row of bytes of our own, as a text. -/
theorem yl_b2s {s t e : TypeId} {x : Operand} {b m c : Nat} {bs : List UInt8} {T : TypeId} {fz : Nat × Nat} (i : Nat) (hs : P.underlying s = some (.slice e)) (he : P.underlying e = some (.int .u8)) (ht : P.underlying t = some .string) (hL : L[i]? = some (blk b (.cells (bs.map byv).toArray T fz))) (hm : bs.length = m)
    (hx : opv l x = some (.slice (some ⟨b, 0, none⟩) m c)) : Yl P l (Ws w0 F L Vs) ⟨d, .convert s t x, ty, pos, af, g⟩ (st bs) := by
  intro ρ w hρ hw
  have hb : w.heap[b]? = some (.cells (bs.map byv).toArray T fz) := hw.kn _ (mem_of_idx hL)
  subst hm
  have hld := run_loadCells_list (P := P) w ⟨b, 0, none⟩ ((bs.map fun x => (x.toNat : Int)).map (Value.int .u8)) (fun j v hv => by
    rw [add_none]
    refine cell_of_heap hb ?_
    simp only [cellIn, List.getElem?_toArray, Nat.zero_add]
    rw [← hv]
    simp only [List.getElem?_map, Option.map_map]
    rfl)
  simp only [List.length_map] at hld
  have e1 := run_bytesToString (P := P) w ⟨b, 0, none⟩ bs.length c (bs.map fun x => (x.toNat : Int)) hld
  have e2 : ∀ (bs : List UInt8) (r : ByteArray), (bs.map fun x => (x.toNat : Int)).foldl (fun r n => r.push (UInt8.ofNat n.toNat)) r = ⟨r.data ++ bs.toArray⟩ := by
    intro bs
    induction bs with
    | nil => intro r; simp
    | cons x xs ih =>
      intro r
      simp only [List.map_cons, List.foldl_cons]
      rw [ih]
      simp [ByteArray.push]
  rw [e2] at e1
  have e3 : (convert s t (.slice (some ⟨b, 0, none⟩) bs.length c)).run P w = .ok (st bs) w := by
    simp only [convert, Sem.run_bind, run_underlying hs, run_underlying ht, Result.andThen_ok, run_underlying he, e1]
    simp [st]
  simp [execOp, hρ x _ hx, e3]
end
section
variable {P : Program} {ops : Array Oper} {Q : Exit → Act → World → Prop} {n : Nat} {ds : List Deferred} {l : List (Nat × Value)} {w0 : World} {F : List Nat} {L : List Asr} {Vs : List View} {rest : List Oper} {d : Nat} {ty : TypeId} {pos : String} {af : Array Edge} {g : Option (Nat × Bool)}
theorem appends_block {t u e ty : TypeId} {v v' : Value} {m : Nat} {s : ByteArray} {xs : List Value} {w w' : World} {i : TypeInfo} (ht : P.underlying t = some (.slice e)) (hu : P.underlying u = some .string) (hi : P.info? e = some i) (hz : i.zero = some (.int .u8 0)) (hsize : i.size = 1) (hby1 : i.bytes = 1)
    (hown : w.ownsRow 0 e 1 v m xs) (hby : m + s.size ≤ 140737488355328) (hrun : (Builtin.append_ #[t, u] ty #[v, .string s]).run P w = .ok v' w') (hnil : v' = .slice none 0 0 ↔ v = .slice none 0 0 ∧ s.size = 0) :
    v'.ownBlock = v.ownBlock ∨ v'.ownBlock = some w.heap.size := by
  obtain ⟨hx, h2⟩ := hown
  have hxl : xs.length = m := by simpa using hx
  rcases h2 with ⟨rfl, rfl⟩ | ⟨g, cap, cur, rfl, _, hg, hmc, hcm, hcs, htk⟩
  · by_cases hk : s.size = 0
    · exact .inl (by rw [hnil.2 ⟨rfl, hk⟩])
    · have e2 := run_append_nil_string (P := P) w t u ty e i (.int .u8 0) ht hu hi hz s (by omega) (by omega) (by rw [hby1]; omega)
      rw [hrun] at e2
      injection e2 with e2 _
      exact .inr (by rw [e2]; rfl)
  · by_cases hroom : m + s.size ≤ cap
    · have e2 := Lib.run_append_room_string (P := P) w t u ty e i ht hu hi hsize g m cap cur hg s hroom (by omega)
      rw [hrun] at e2
      injection e2 with e2 _
      exact .inl (by rw [e2]; rfl)
    · have hcell : ∀ j v, xs[j]? = some v → w.cell? ((⟨g, 0, none⟩ : Addr).add j) = some v := by
        intro j u hu
        rw [add_none, ← htk] at *
        refine cell_of_heap hg ?_
        rw [List.getElem?_take] at hu
        split at hu
        · simpa [cellIn] using hu
        · cases hu
      have e2 := Lib.run_append_grow_string (P := P) w t u ty e i (.int .u8 0) ht hu hi hz ⟨g, 0, none⟩ m cap xs (by rw [hsize]; omega) hcell s (by omega) (by omega) (by rw [hby1]; exact growslice_fits (by omega) (by omega))
      rw [hrun] at e2
      injection e2 with e2 _
      exact .inr (by rw [e2]; rfl)
/-- A text is laid behind bytes of our own. -/
theorem WL.appends {t u e : TypeId} {v : Value} {m : Nat} {s x : Operand} {bs : List UInt8} {xs : List Value} (i : Nat) (hg : GOk ops l g) (hn : Nat.blt d n = true) (hE : EltOk P t e (.int .u8 0) 1 1) (hu : P.underlying u = some .string)
    (hs : opv l s = some v) (hx : opv l x = some (st bs)) (hL : L[i]? = some (osl e 1 v m xs)) (hby : m + bs.length ≤ 140737488355328)
    (h : ∀ v', (v' = .slice none 0 0 ↔ v = .slice none 0 0 ∧ bs.length = 0) → WL P ops Q n ds ((d, v') :: l) (Ws w0 F (L.set i (osl e 1 v' (m + bs.length) (xs ++ bs.map byv))) Vs) rest) :
    WL P ops Q n ds l (Ws w0 F L Vs) (⟨some d, .call ⟨.builtin .append, #[s, x], #[t, u]⟩, ty, pos, af, g⟩ :: rest) := by
  refine WL.step hg fun a' w ha hw K hK => ?_
  obtain ⟨inf, hi, hz, hsz, hbt⟩ := hE.info
  have hown : w.ownsRow 0 e 1 v m xs := hw.kn _ (mem_of_idx hL)
  have hsl := size_st bs
  obtain ⟨v', w', hrun, hown', hgr, hnil⟩ := Lib.run_append_own_string (P := P) w 0 t u ty e inf hE.under hu hi hz hsz hbt v m xs hown ⟨bs.toArray⟩ (by rw [hsl]; unfold maxLen; omega) (by rw [hsl]; exact hby) (Nat.zero_le _)
  have hblk := appends_block hE.under hu hi hz hsz hbt hown (by rw [hsl]; exact hby) hrun hnil
  rw [hsl, strCells_st] at hown'
  rw [hsl] at hnil
  have hrun' : (execOp a'.eval ⟨some d, .call ⟨.builtin .append, #[s, x], #[t, u]⟩, ty, pos, af, g⟩).run P w = .ok (.value v') w' := by
    simp only [execOp, resolve, List.map_toArray, List.map_cons, List.map_nil, ha.eval hs, ha.eval hx, Sem.run_bind, Sem.run_pure, Result.andThen_ok, invoke, builtin, st, hrun]
  simp only [Oper.wp, hrun', Oper.upon_value]
  refine hK _ _ (h v' hnil _ _ (ha.put hn _) ?_)
  refine Ws.turn1 hw i hL ⟨hgr.os, hgr.tape, hgr.output, hgr.size, fun j hj hne => hgr.block j hj fun e => hne ?_⟩ hown' ?_ fun j hj => ?_
  · simp [osl, ← e]
  · cases hv : v'.ownBlock <;> simp [osl, hv]
  · simp only [osl, Option.mem_toList] at hj ⊢
    rcases hblk with e | e
    · exact .inl (by rw [← e]; exact hj)
    · rw [e] at hj; injection hj with hj; exact .inr (by omega)
/-- unsafe.String over all bytes of our own: they are ours no more. -/
theorem WL.ustr {pt it e : TypeId} {x y : Operand} {b c m : Nat} {bs : List UInt8} (i : Nat) (hg : GOk ops l g) (hn : Nat.blt d n = true) (hp : P.underlying pt = some (.pointer e)) (hc : P.cellsOf e = 1)
    (hx : opv l x = some (.pointer (some ⟨b, 0, none⟩))) (hy : opv l y = some (.int .i64 (m : Int))) (hm : bs.length = m) (hL : L[i]? = some (osl e 1 (.slice (some ⟨b, 0, none⟩) m c) m (bs.map byv))) (h0 : bs ≠ []) (hb : m ≤ 9223372036854775807)
    (h : WL P ops Q n ds ((d, st bs) :: l) (Ws w0 F (outOf i L) Vs) rest) :
    WL P ops Q n ds l (Ws w0 F L Vs) (⟨some d, .call ⟨.builtin .unsafeString, #[x, y], #[pt, it]⟩, ty, pos, af, g⟩ :: rest) := by
  refine WL.step hg fun a' w ha hw K hK => ?_
  subst hm
  obtain ⟨cur, hcur, hxs, hcs, hmc, hlen⟩ := osl_cell (hw.kn _ (mem_of_idx hL))
  have hsh := shape_cells hcur
  have hrun := Lib.run_unsafeString_row (P := P) w pt it ty e hp hc b cur.size hsh bs h0 (by omega) hb (fun j u hu => by
    rw [add_none]
    refine cell_of_heap hcur ?_
    have h1 : (bs.map byv)[j]? = some (byv u) := by simp [hu]
    rw [← hxs, List.getElem?_take] at h1
    split at h1
    · simpa [cellIn, byv] using h1
    · cases h1)
  have hrun' : (execOp a'.eval ⟨some d, .call ⟨.builtin .unsafeString, #[x, y], #[pt, it]⟩, ty, pos, af, g⟩).run P w = .ok (.value (st bs)) (w.freeze ⟨b, 0, none⟩ bs.length) := by
    simp only [execOp, resolve, List.map_toArray, List.map_cons, List.map_nil, ha.eval hx, ha.eval hy, Sem.run_bind, Sem.run_pure, Result.andThen_ok, invoke, builtin, st, hrun]
  simp only [Oper.wp, hrun', Oper.upon_value]
  refine hK _ _ (h _ _ (ha.put hn _) ?_)
  have hw' := hw.perm (outOf_perm i L hL)
  have := Ws.turn (L := [osl e 1 (.slice (some ⟨b, 0, none⟩) bs.length c) bs.length (bs.map byv)]) (L' := []) (L2 := outOf i L) hw' (w' := w.freeze ⟨b, 0, none⟩ bs.length) ⟨by unfold World.freeze; split <;> rfl, by unfold World.freeze; split <;> rfl, by unfold World.freeze; split <;> rfl, by unfold World.freeze; split <;> simp, fun j hj hne => by
    have hbj : j ≠ b := fun e => hne (by simp [osl, Value.ownBlock, e])
    unfold World.freeze
    split
    · rfl
    · simp [Array.getElem?_modify, Ne.symm hbj]⟩ (by simp) (by simp) (by simp)
  simpa using this
end
theorem blk_cells {w0 w : World} {F : List Nat} {L : List Asr} {Vs : List View} (h : Ws w0 F L Vs w) (i : Nat) {b : Nat} {c : Array Value} {T : TypeId} {fz : Nat × Nat} (hL : L[i]? = some (blk b (.cells c T fz))) {k : Nat} {u : Value} (hu : c.toList[k]? = some u) : w.cell? ((⟨b, 0, none⟩ : Addr).add k) = some u := by
  rw [add_none]
  exact cell_of_heap (h.kn _ (mem_of_idx hL)) (by simpa [cellIn] using hu)
section
variable {P : Program} {ops : Array Oper} {Q : Exit → Act → World → Prop} {n : Nat} {ds : List Deferred} {l : List (Nat × Value)} {w0 : World} {F : List Nat} {L : List Asr} {Vs : List View} {rest : List Oper}
theorem WL.slc {e : TypeId} {size m : Nat} {v : Value} {xs : List Value} (i : Nat) (hL : L[i]? = some (osl e size v m xs))
    (h : ∀ a k c, v = .slice a k c → WL P ops Q n ds l (Ws w0 F L Vs) rest) : WL P ops Q n ds l (Ws w0 F L Vs) rest := by
  intro a w ha hw
  obtain ⟨h1, h2⟩ := (hw.kn _ (mem_of_idx hL) : w.ownsRow 0 e size v m xs)
  rcases h2 with ⟨h3, _⟩ | ⟨b, cap, cur, hv, _⟩
  · exact h _ _ _ h3 a w ha hw
  · exact h _ _ _ hv a w ha hw
end
/-- A block of our own becomes data that only is read. -/
def bv (b : Nat) (ob : Obj) : View := fun k => if k = b then some ob else none
theorem bv_vc {b k : Nat} {ob : Obj} {v : Value} (h : cellIn ob k = some v) : vc (bv b ob) b k = some v := by simp [vc, bv, h]
theorem Ws.blkview {w0 w : World} {F : List Nat} {L : List Asr} {Vs : List View} (h : Ws w0 F L Vs w) (i : Nat) {b : Nat} {ob : Obj} (hL : L[i]? = some (blk b ob)) : Ws w0 F (outOf i L) (bv b ob :: Vs) w := by
  have hp := h.perm (outOf_perm i L hL)
  have hd : Ws w0 F (outOf i L) Vs w := Ws.drop (L := [blk b ob]) hp
  have hb : w.heap[b]? = some ob := h.kn _ (mem_of_idx hL)
  have nd := hp.nd
  rw [List.flatMap_cons, List.nodup_append] at nd
  refine ⟨hd.fr, hd.kn, hd.nd, hd.own, ?_, ?_⟩
  · intro H hH
    rcases List.mem_cons.1 hH with rfl | hH
    · intro k o hk
      unfold bv at hk
      split at hk
      · rename_i e; subst e; injection hk with hk; subst hk; exact hb
      · cases hk
    · exact hd.vs H hH
  · intro H hH A hA k hk
    rcases List.mem_cons.1 hH with rfl | hH
    · unfold bv
      rw [if_neg]
      intro e
      subst e
      exact nd.2.2 k (by simp [blk]) k (List.mem_flatMap.2 ⟨A, hA, hk⟩) rfl
    · exact hd.off H hH A hA k hk
section
variable {P : Program} {ops : Array Oper} {Q : Exit → Act → World → Prop} {n : Nat} {ds : List Deferred} {l : List (Nat × Value)} {w0 : World} {F : List Nat} {L : List Asr} {Vs : List View} {rest : List Oper}
theorem WL.blkview {b : Nat} {ob : Obj} (i : Nat) (hL : L[i]? = some (blk b ob)) (h : WL P ops Q n ds l (Ws w0 F (outOf i L) (bv b ob :: Vs)) rest) : WL P ops Q n ds l (Ws w0 F L Vs) rest :=
  WL.world (fun _ hw => hw.blkview i hL) h
theorem WC.shape {c : Code} {e : TypeId} {size m : Nat} {v : Value} {xs : List Value} (i : Nat) (hL : L[i]? = some (osl e size v m xs)) (hm : 0 < m)
    (h : ∀ b k, v = .slice (some ⟨b, 0, none⟩) m k → m ≤ k → k ≤ maxLen → WC P c Q n ds l (Ws w0 F L Vs)) : WC P c Q n ds l (Ws w0 F L Vs) := by
  intro a w ha hw
  obtain ⟨h1, h2⟩ := (hw.kn _ (mem_of_idx hL) : w.ownsRow 0 e size v m xs)
  rcases h2 with ⟨h3, h4⟩ | ⟨b, cap, cur, hv, _, _, hmc, hc, _⟩
  · omega
  · exact h b cap hv hmc hc a w ha hw
end
section
variable {P : Program} {l : List (Nat × Value)} {W : World → Prop} {d : Option Tmp} {ty : TypeId} {pos : String} {af : Array Edge} {g : Option (Nat × Bool)}
theorem yl_addv {t u : TypeId} {x y : Operand} {a b : Int} (v : Int) (hx : opv l x = some (.int .i64 a)) (hy : opv l y = some (.int .i64 b)) (he : a + b = v) (hb : -9223372036854775808 ≤ v ∧ v ≤ 9223372036854775807) : Yl P l W ⟨d, .binOp .add t x y u, ty, pos, af, g⟩ (.int .i64 v) := by
  subst he; exact yl_add hx hy hb
theorem yl_subv {t u : TypeId} {x y : Operand} {a b : Int} (v : Int) (hx : opv l x = some (.int .i64 a)) (hy : opv l y = some (.int .i64 b)) (he : a - b = v) (hb : -9223372036854775808 ≤ v ∧ v ≤ 9223372036854775807) : Yl P l W ⟨d, .binOp .sub t x y u, ty, pos, af, g⟩ (.int .i64 v) := by
  subst he; exact yl_sub hx hy hb
theorem yl_shrk {t u : TypeId} {x y : Operand} {k2 : IntKind} {n : Int} (m : Nat) (hx : opv l x = some (.int .i64 n)) (hy : opv l y = some (.int k2 (m : Int))) (hm : m ≤ 64) : Yl P l W ⟨d, .binOp .shr t x y u, ty, pos, af, g⟩ (.int .i64 (n.fdiv (2 ^ m))) := by
  have h := yl_shr (P := P) (W := W) (d := d) (ty := ty) (pos := pos) (af := af) (g := g) (t := t) (u := u) hx hy (by omega)
  have e : min ((m : Int).toNat) IntKind.i64.bits = m := by simp [IntKind.bits]; omega
  rwa [e] at h
end
def fullB (size : Nat) : Nat → List (Nat × Value) → Bool
  | _, [] => true
  | k, (i, v) :: r => Nat.beq i k && Nat.beq (vcells v).length size && fullB size (k + 1) r
def fullV : List (Nat × Value) → List Value
  | [] => []
  | (_, v) :: r => vcells v ++ fullV r
theorem fill_full (size : Nat) : ∀ (vs : List (Nat × Value)) (k : Nat) (done rest : List Value), fullB size k vs = true → done.length = k * size → rest.length = vs.length * size →
    fillL (fun i => some (i * size, size)) (done ++ rest) vs = some (done ++ fullV vs)
  | [], k, done, rest, _, _, hr => by
    have : rest = [] := List.eq_nil_of_length_eq_zero (by simpa using hr)
    simp [fillL, fullV, this]
  | (i, v) :: r, k, done, rest, hf, hd, hr => by
    simp only [fullB, Bool.and_eq_true] at hf
    obtain ⟨⟨h1, h2⟩, h3⟩ := hf
    have h1 := Nat.eq_of_beq_eq_true h1
    subst h1
    have h2 := Nat.eq_of_beq_eq_true h2
    have hrl : size ≤ rest.length := by rw [hr, List.length_cons, Nat.add_mul]; omega
    have hb : (Nat.beq (vcells v).length size && Nat.ble (i * size + size) (done ++ rest).length) = true := by
      rw [h2, Nat.beq_refl, Bool.true_and]
      exact Nat.ble_eq_true_of_le (by simp; omega)
    simp only [fillL, hb, cond_true]
    have e1 : (done ++ rest).take (i * size) = done := by rw [← hd]; simp
    have e2 : (done ++ rest).drop (i * size + size) = rest.drop size := by
      rw [List.drop_append, hd, List.drop_of_length_le (by omega)]
      simp
    rw [e1, e2]
    have := fill_full size r (i + 1) (done ++ vcells v) (rest.drop size) h3 (by simp [hd, h2, Nat.add_mul]) (by simp [hr, Nat.add_mul])
    rw [this]
    simp [fullV]
theorem zerosL_len (z : Value) (k : Nat) : (zerosL z k).length = k := by simp [zerosL]
section
variable {P : Program} {ops : Array Oper} {Q : Exit → Act → World → Prop} {n : Nat} {ds : List Deferred} {l : List (Nat × Value)} {w0 : World} {F : List Nat} {L : List Asr} {Vs : List View} {rest : List Oper} {d : Nat} {ty : TypeId} {pos : String} {af : Array Edge} {g : Option (Nat × Bool)}
/-- A slice literal whose places are all told, in order. -/
theorem WL.bsliceF {t e : TypeId} {len size bytes : Nat} {parts : List (Nat × Operand)} {z : Value} {vs : List (Nat × Value)} (hg : GOk ops l g) (hn : Nat.blt d n = true) (hE : EltOk P t e z size bytes)
    (hv : evp l parts = some vs) (hb : Nat.ble (len * size) 16777216 = true) (hf : fullB size 0 vs = true) (hl : vs.length = len)
    (h : ∀ b, WL P ops Q n ds ((d, .slice (some ⟨b, 0, none⟩) len len) :: l) (Ws w0 F (blk b (.cells (fullV vs).toArray e (0, 0)) :: L) Vs) rest) :
    WL P ops Q n ds l (Ws w0 F L Vs) (⟨some d, .buildSlice t len parts.toArray, ty, pos, af, g⟩ :: rest) := by
  refine WL.bslice hg hn hE hv hb (out := fullV vs) ?_ h
  have hz : (bif Nat.beq (len * size) 0 then [] else zerosL z (len * size)) = zerosL z (len * size) := by
    cases hq : Nat.beq (len * size) 0 with
    | false => rfl
    | true => have := Nat.eq_of_beq_eq_true hq; rw [this]; rfl
  rw [hz]
  have := fill_full size vs 0 [] (zerosL z (len * size)) hf (by simp) (by rw [zerosL_len, hl])
  simpa using this
end
end Go.Bw
