/- Own base: rules that step through the code of a function, with what is known of its slots and of the memory kept as a list; no condition. -/
import Derived.Test.YtcjloelhjnnhmaaDoorBw7
namespace Go.Bw
open Go Go.RowKit

section
variable {P : Program} {ops : Array Oper} {Q : Exit → Act → World → Prop} {n : Nat} {ds : List Deferred} {l l' : List (Nat × Value)} {W : World → Prop} {w0 : World} {F : List Nat} {L : List Asr} {Vs : List View}
  {rest : List Oper} {d : Nat} {ty : TypeId} {pos : String} {af : Array Edge} {g : Option (Nat × Bool)}

/-! ### buildSlice -/
def zerosL (z : Value) (k : Nat) : List Value := (List.range k).map fun i => ((vcells z)[i % (vcells z).length]?).getD undef
theorem zerosL_eq (z : Value) (k : Nat) (hz : 0 < z.cells.size) : ((Array.range k).map (z.cells[· % z.cells.size]!) : Array Value).toList = zerosL z k := by
  simp only [Array.toList_map, Array.toList_range, zerosL]
  apply List.map_congr_left
  intro i _
  have hlt : i % z.cells.size < z.cells.size := Nat.mod_lt _ hz
  have e : (vcells z).length = z.cells.size := by rw [← vcells_eq]; simp
  rw [e, ← vcells_eq]
  simp [hlt]
theorem WL.bslice {t e : TypeId} {len size bytes : Nat} {parts : List (Nat × Operand)} {z : Value} {vs : List (Nat × Value)} {out : List Value} (hg : GOk ops l g) (hn : Nat.blt d n = true) (hE : EltOk P t e z size bytes)
    (hv : evp l parts = some vs) (hb : Nat.ble (len * size) 16777216 = true) (hf : fillL (fun i => some (i * size, size)) (bif Nat.beq (len * size) 0 then [] else zerosL z (len * size)) vs = some out)
    (h : ∀ b, WL P ops Q n ds ((d, .slice (some ⟨b, 0, none⟩) len len) :: l) (Ws w0 F (blk b (.cells out.toArray e (0, 0)) :: L) Vs) rest) :
    WL P ops Q n ds l (Ws w0 F L Vs) (⟨some d, .buildSlice t len parts.toArray, ty, pos, af, g⟩ :: rest) := by
  obtain ⟨inf, hi, hz, hsz, hbt⟩ := hE.info
  have hb' := Nat.le_of_ble_eq_true hb
  refine WL.new (mk := fun b => .slice (some ⟨b, 0, none⟩) len len) hg hn (fun ρ w hρ hw => ?_) h
  have e1 : ((parts.toArray.map fun (i, x) => (i, ρ x)) : Array (Nat × Value)).toList = vs := by simpa using evp_map hρ parts vs hv
  have hzs : zeroOf P e = some z := by simp [zeroOf, hi, hz]
  have hss : sizeP P e = some size := by simp [sizeP, hi, hsz]
  have hnot : ¬ len * size > 2 ^ 24 := by omega
  by_cases h0 : len * size = 0
  · have hfill : Instr.fill (fun i => some (i * size, size)) #[] vs = some out.toArray := by
      refine fill_of _ vs #[] out ?_
      simpa [h0] using hf
    simp only [execOp, Instr.buildSlice, Sem.run_bind, run_underlying hE.under, Result.andThen_ok, run_size hss, if_neg hnot, Sem.run_pure, if_pos h0, e1]
    simp [h0, hfill, newRow, Array.range_zero']
  · have hfill : Instr.fill (fun i => some (i * size, size)) ((Array.range (len * size)).map (z.cells[· % z.cells.size]!)) vs = some out.toArray := by
      refine fill_of _ vs _ out ?_
      rw [zerosL_eq z _ (by rw [hE.zs]; exact hE.pos)]
      have : Nat.beq (len * size) 0 = false := by
        cases hbq : Nat.beq (len * size) 0 with
        | false => rfl
        | true => exact absurd (Nat.eq_of_beq_eq_true hbq) h0
      simpa [this] using hf
    simp only [execOp, Instr.buildSlice, Sem.run_bind, run_underlying hE.under, Result.andThen_ok, run_size hss, if_neg hnot, Sem.run_pure, if_neg h0, e1, run_zero hzs, hfill]
    simp [newRow]

/-! ### A function value is called -/
theorem run_callv {ρ : Operand → Value} {dst : Option Tmp} {f : FuncId} {cx : Operand} {caps : Array Value} {args : Array Operand} {ts : Array TypeId} {vs : List Value} {w : World} (hf : Enters P f) (hρ : ∀ x u, opv l x = some u → ρ x = u)
    (hcx : opv l cx = some (.func (.func f) #[] caps)) (ha : evs l args.toList = some vs) :
    (execOp ρ ⟨dst, .call ⟨.value cx, args, ts⟩, ty, pos, af, g⟩).run P w = .ok (.enter f (vs.toArray ++ caps)) w := by
  have e : args.map ρ = vs.toArray := by
    apply Array.ext'
    simpa using evs_map hρ _ _ ha
  simp only [execOp, resolve, e, hρ cx _ hcx, Deferred.ofValue, Sem.run_bind, Sem.run_pure, Result.andThen_ok, invoke]
  simpa using hf _ w
theorem WL.callvx {ι : Type} {f : FuncId} {cx : Operand} {caps : Array Value} {args : Array Operand} {ts : Array TypeId} {vs : List Value} (hg : GOk ops l g) (hn : Nat.blt d n = true) (hf : Enters P f) (hcx : opv l cx = some (.func (.func f) #[] caps)) (ha : evs l args.toList = some vs)
    (v : ι → Value) (R : ι → World → Prop) (Pn : List PanicEntry → World → Prop)
    (hC : ∀ w, W w → Calls P f (vs.toArray ++ caps) w fun e w' => (∃ i, e = .returned (v i) ∧ R i w') ∨ ∃ ch, e = .panicked ch ∧ Pn ch w')
    (hr : ∀ i, WL P ops Q n ds ((d, v i) :: l) (R i) rest) (hp : ∀ ch, WE Q (.panic ch) n ds l (Pn ch)) :
    WL P ops Q n ds l W (⟨some d, .call ⟨.value cx, args, ts⟩, ty, pos, af, g⟩ :: rest) := by
  refine WL.step hg fun a w ha' hw K hK => ?_
  have hrun := run_callv (P := P) (dst := some d) (ts := ts) (ty := ty) (pos := pos) (af := af) (g := g) (w := w) hf (fun x u hx => ha'.eval hx) hcx ha
  simp only [Oper.wp, hrun, Oper.upon_enter]
  refine (hC w hw).mono fun e w' he => ?_
  rcases he with ⟨i, rfl, h⟩ | ⟨ch, rfl, h⟩
  · exact hK _ _ (hr i _ _ (ha'.put hn _) h)
  · exact hp ch _ _ ha' h
theorem WL.callvp {f : FuncId} {cx : Operand} {caps : Array Value} {args : Array Operand} {ts : Array TypeId} {vs : List Value} {v : Value} (hg : GOk ops l g) (hn : Nat.blt d n = true) (hf : Enters P f) (hcx : opv l cx = some (.func (.func f) #[] caps)) (ha : evs l args.toList = some vs)
    (hC : ∀ w, Ws w0 F L Vs w → Calls P f (vs.toArray ++ caps) w fun e w' => e = .returned v ∧ Ext w w')
    (hr : WL P ops Q n ds ((d, v) :: l) (Ws w0 F L Vs) rest) :
    WL P ops Q n ds l (Ws w0 F L Vs) (⟨some d, .call ⟨.value cx, args, ts⟩, ty, pos, af, g⟩ :: rest) := by
  refine WL.step hg fun a w ha' hw K hK => ?_
  have hrun := run_callv (P := P) (dst := some d) (ts := ts) (ty := ty) (pos := pos) (af := af) (g := g) (w := w) hf (fun x u hx => ha'.eval hx) hcx ha
  simp only [Oper.wp, hrun, Oper.upon_enter]
  refine (hC w hw).mono fun e w' he => ?_
  obtain ⟨rfl, h⟩ := he
  exact hK _ _ (hr _ _ (ha'.put hn _) (hw.ext h))
/-- A call that turns some of our own things: the first k of the list. -/
theorem WL.callm {ι : Type} {f : FuncId} {args : Array Operand} {ts : Array TypeId} {vs : List Value} {L1 L2 : List Asr} (hg : GOk ops l g) (hn : Nat.blt d n = true) (hf : Enters P f) (ha : evs l args.toList = some vs) (hL : L.Perm (L1 ++ L2))
    (v : ι → Value) (L1' : ι → List Asr) (R : View → ι → Prop)
    (hC : ∀ w, Ws w0 F L Vs w → Calls P f vs.toArray w fun e w' => ∃ i, e = .returned (v i) ∧ Fr (L1.flatMap Asr.ids) w w' ∧ (∀ A ∈ L1' i, A.holds w') ∧ ((L1' i).flatMap Asr.ids).Nodup ∧ (∀ A ∈ L1' i, ∀ k ∈ A.ids, k ∈ L1.flatMap Asr.ids ∨ w.heap.size ≤ k) ∧ R (fun _ => none) i)
    (hr : ∀ i, R (fun _ => none) i → WL P ops Q n ds ((d, v i) :: l) (Ws w0 F (L1' i ++ L2) Vs) rest) :
    WL P ops Q n ds l (Ws w0 F L Vs) (⟨some d, .call ⟨.value (.func f), args, ts⟩, ty, pos, af, g⟩ :: rest) := by
  refine WL.step hg fun a w ha' hw K hK => ?_
  have hrun := run_call (P := P) (dst := some d) (ts := ts) (ty := ty) (pos := pos) (af := af) (g := g) (w := w) hf (fun x u hx => ha'.eval hx) ha
  simp only [Oper.wp, hrun, Oper.upon_enter]
  refine (hC w hw).mono fun e w' he => ?_
  obtain ⟨i, rfl, h1, h2, h3, h4, h5⟩ := he
  exact hK _ _ (hr i h5 _ _ (ha'.put hn _) (Ws.turn (hw.perm hL) h1 h2 h3 h4))

/-! ### Results that lie in memory -/
theorem WE.retc1 {fn : Func} {R : Ending → World → Prop} {a b o k : Nat} {t : TypeId} {ob : Obj} (i : Nat) (hr : fn.results = #[.cell a t]) (ha : lk l a = some (.pointer (some ⟨b, o, none⟩))) (hL : L[i]? = some (blk b ob)) (ht : aggOf P t = some k) (hl : (cellsIn ob o k).length = k)
    (h : ∀ w, Ws w0 F L Vs w → R (.returned (.agg (cellsIn ob o k).toArray)) w) : WE (bodyPost P fn R) .ret n [] l (Ws w0 F L Vs) := by
  intro A w hA hw
  have hrun : (loadVar t ⟨b, o, none⟩).run P w = .ok (.agg (cellsIn ob o k).toArray) w := run_loadVar_agg ht hl fun j v hj => by
    have hk : w.heap[b]? = some ob := hw.kn _ (mem_of_idx hL)
    refine cell_of_heap hk ?_
    cases ob <;> simp [cellsIn, cellIn] at *
    rw [List.getElem?_take] at hj
    split at hj
    · simpa using hj
    · cases hj
  refine bodyPost_ret (v := .agg (cellsIn ob o k).toArray) ?_ hA.defs (h w hw)
  have ha' := hA.vals a _ ha
  rw [Array.getD_eq_getD_getElem?] at ha'
  simp [results, hr, ha', asAddr, hrun]
theorem WE.retc2 {fn : Func} {R : Ending → World → Prop} {a b o k u : Nat} {x : Value} {t : TypeId} {ob : Obj} (i : Nat) (hr : fn.results = #[.cell a t, .tmp u]) (ha : lk l a = some (.pointer (some ⟨b, o, none⟩))) (hu : lk l u = some x) (hL : L[i]? = some (blk b ob)) (ht : aggOf P t = some k) (hl : (cellsIn ob o k).length = k)
    (h : ∀ w, Ws w0 F L Vs w → R (.returned (.tuple #[.agg (cellsIn ob o k).toArray, x])) w) : WE (bodyPost P fn R) .ret n [] l (Ws w0 F L Vs) := by
  intro A w hA hw
  have hrun : (loadVar t ⟨b, o, none⟩).run P w = .ok (.agg (cellsIn ob o k).toArray) w := run_loadVar_agg ht hl fun j v hj => by
    have hk : w.heap[b]? = some ob := hw.kn _ (mem_of_idx hL)
    refine cell_of_heap hk ?_
    cases ob <;> simp [cellsIn, cellIn] at *
    rw [List.getElem?_take] at hj
    split at hj
    · simpa using hj
    · cases hj
  refine bodyPost_ret (v := .tuple #[.agg (cellsIn ob o k).toArray, x]) ?_ hA.defs (h w hw)
  have ha' := hA.vals a _ ha
  have hu' := hA.vals u _ hu
  rw [Array.getD_eq_getD_getElem?] at ha' hu'
  simp [results, hr, ha', hu', asAddr, hrun]
end

/-! ### Our own things, as data for others -/
theorem Ws.nvc {w0 w : World} {L : List Asr} {Vs : List View} (h : Ws w0 [] L Vs w) (i : Nat) {b : Nat} {ob : Obj} (hL : L[i]? = some (blk b ob)) {k : Nat} {v : Value} (hc : cellIn ob k = some v) : vc (nv w0 w) b k = some v := by
  have hb : w.heap[b]? = some ob := h.kn _ (mem_of_idx hL)
  have ho := h.own _ (mem_of_idx hL) b (by simp [blk])
  simp at ho
  unfold vc nv
  rw [if_pos ho, hb]
  exact hc
theorem Ws.nvs {w0 w : World} {L : List Asr} {Vs : List View} (h : Ws w0 [] L Vs w) (i : Nat) {e : TypeId} {size m : Nat} {v : Value} {xs : List Value} (hL : L[i]? = some (osl e size v m xs)) :
    (v = .slice none 0 0 ∧ xs = []) ∨ ∃ b c, v = .slice (some ⟨b, 0, none⟩) m c ∧ m ≤ c ∧ c ≤ maxLen ∧ ∀ j u, xs[j]? = some u → vc (nv w0 w) b j = some u := by
  obtain ⟨h1, h2⟩ := (h.kn _ (mem_of_idx hL) : w.ownsRow 0 e size v m xs)
  rcases h2 with ⟨rfl, rfl⟩ | ⟨b, cap, cur, rfl, _, hb, hm, hc, hs, ht⟩
  · exact .inl ⟨rfl, by cases xs; rfl; simp at h1⟩
  · refine .inr ⟨b, cap, rfl, hm, hc, fun j u hu => ?_⟩
    have ho := h.own _ (mem_of_idx hL) b (by simp [osl, Value.ownBlock])
    simp at ho
    unfold vc nv
    rw [if_pos ho, hb]
    rw [← ht, List.getElem?_take] at hu
    split at hu
    · simpa [cellIn] using hu
    · cases hu

/-! ### Rows of one-cell things -/
theorem stOk_map {α : Type} (f : α → Value) (l : List α) (T : TypeId) (k : Nat) (h : k < l.length) : stOk (.cells (l.map f).toArray T (0, 0)) (0 + k * 1) 1 = true := by
  simp only [stOk, Nat.beq_refl, Bool.and_true]
  exact Nat.ble_eq_true_of_le (by simp; omega)
theorem setIn_map {α : Type} (f : α → Value) (l : List α) (T : TypeId) (k : Nat) (x : α) (h : k < l.length) : setIn (.cells (l.map f).toArray T (0, 0)) (0 + k * 1) [f x] = .cells ((l.set k x).map f).toArray T (0, 0) := by
  simp only [setIn, Nat.zero_add, Nat.mul_one, List.length_singleton, List.set_eq_take_append_cons_drop, if_pos h]
  simp
theorem cellIn_map {α : Type} (f : α → Value) (l : List α) (T : TypeId) (fz : Nat × Nat) (k : Nat) : cellIn (.cells (l.map f).toArray T fz) k = (l[k]?).map f := by simp [cellIn]
end Go.Bw
