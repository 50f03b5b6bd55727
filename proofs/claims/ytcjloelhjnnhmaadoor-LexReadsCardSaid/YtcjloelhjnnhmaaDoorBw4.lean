/- Own base: rules that step through the code of a function, with what is known of its slots and of the memory kept as a list; no condition. -/
import Derived.Test.YtcjloelhjnnhmaaDoorBw3
namespace Go.Bw
open Go Go.RowKit

def zeroOf (P : Program) (t : TypeId) : Option Value := (P.info? t).bind (·.zero)
def sizeP (P : Program) (t : TypeId) : Option Nat := (P.info? t).map (·.size)
theorem run_zero {P : Program} {t : TypeId} {z : Value} (h : zeroOf P t = some z) (w : World) : (zeroValue t).run P w = .ok z w := by
  unfold zeroOf at h
  cases hi : P.info? t with
  | none => simp [hi] at h
  | some i => simp [hi] at h; simp [zeroValue, typeInfo, hi, h]
theorem run_size {P : Program} {t : TypeId} {k : Nat} (h : sizeP P t = some k) (w : World) : (sizeOf t).run P w = .ok k w := by
  unfold sizeP at h
  cases hi : P.info? t with
  | none => simp [hi] at h
  | some i => simp [hi] at h; simp [sizeOf, typeInfo, hi, h]

/-! ### build, buildSlice -/
theorem fold_set (vs : List Value) : ∀ (k off : Nat) (cells : Array Value), off + k + vs.length ≤ cells.size →
    ((vs.zipIdx k).foldl (fun cs (p : Value × Nat) => cs.setIfInBounds (off + p.2) p.1) cells).toList = cells.toList.take (off + k) ++ vs ++ cells.toList.drop (off + k + vs.length) := by
  induction vs with
  | nil => intro k off cells _; simp
  | cons v r ih =>
    intro k off cells h
    simp only [List.zipIdx_cons, List.foldl_cons]
    rw [ih (k + 1) off _ (by simp at h ⊢; omega)]
    simp only [Array.toList_setIfInBounds]
    have := list_seg_step cells.toList (off + k) v r (by simp at h ⊢; omega)
    simpa [Nat.add_assoc] using this
def vcells : Value → List Value | .agg cs => cs.toList | v => [v]
theorem vcells_eq (v : Value) : v.cells.toList = vcells v := by cases v <;> rfl
/-- The model's 'fill', on lists. -/
def fillL (place : Nat → Option (Nat × Nat)) : List Value → List (Nat × Value) → Option (List Value)
  | cells, [] => some cells
  | cells, (i, v) :: r => match place i with
    | some (off, size) => bif Nat.beq (vcells v).length size && Nat.ble (off + size) cells.length then fillL place (cells.take off ++ vcells v ++ cells.drop (off + size)) r else none
    | none => none
theorem fill_of (place : Nat → Option (Nat × Nat)) : ∀ (parts : List (Nat × Value)) (cells : Array Value) (out : List Value), fillL place cells.toList parts = some out → Instr.fill place cells parts = some out.toArray
  | [], cells, out, h => by simp [fillL] at h; simp [Instr.fill, ← h]
  | (i, v) :: r, cells, out, h => by
    simp only [fillL] at h
    cases hp : place i with
    | none => simp [hp] at h
    | some x =>
      obtain ⟨off, size⟩ := x
      simp only [hp] at h
      cases hb : (Nat.beq (vcells v).length size && Nat.ble (off + size) cells.toList.length) with
      | false => rw [hb] at h; cases h
      | true =>
        rw [hb] at h
        simp only [Bool.and_eq_true] at hb
        have h1 := Nat.eq_of_beq_eq_true hb.1
        have h2 := Nat.le_of_ble_eq_true hb.2
        have h3 : v.cells.size = size := by rw [← h1, ← vcells_eq]; simp
        have h4 : off + v.cells.size ≤ cells.size := by rw [h3]; simpa using h2
        simp only [Instr.fill, hp]
        rw [if_neg (by simp [h3]; rw [h3] at h4; omega)]
        have e := fold_set v.cells.toList 0 off cells (by simpa using h4)
        simp only [Nat.add_zero, Array.length_toList] at e
        have e2 : (v.cells.zipIdx.foldl (fun cs (c, j) => cs.setIfInBounds (off + j) c) cells) = (cells.toList.take off ++ vcells v ++ cells.toList.drop (off + size)).toArray := by
          apply Array.ext'
          rw [← Array.foldl_toList, Array.toList_zipIdx]
          rw [h3] at e
          rw [e, vcells_eq]
        rw [e2]
        exact fill_of place r _ out (by simpa using h)
def placesP (P : Program) (t : TypeId) : Option (List (Nat × Nat)) := match P.underlying t with
  | some (.struct fs) => fs.toList.mapM fun f => (sizeP P f.type).map (f.offset, ·)
  | _ => none
theorem run_places {P : Program} : ∀ (fs : List Field) (pl : List (Nat × Nat)), fs.mapM (fun f => (sizeP P f.type).map (f.offset, ·)) = some pl → ∀ w : World,
    (fs.mapM (m := Sem) fun f => do pure (f.offset, ← sizeOf f.type)).run P w = .ok pl w
  | [], pl, h, w => by simp at h; subst h; simp
  | f :: fs, pl, h, w => by
    simp only [List.mapM_cons, Option.bind_eq_bind] at h
    cases hs : sizeP P f.type with
    | none => simp [hs] at h
    | some k =>
      simp only [hs, Option.map_some, Option.bind_some] at h
      cases hr : fs.mapM (fun f => (sizeP P f.type).map (f.offset, ·)) with
      | none => simp [hr] at h
      | some rl =>
        simp [hr] at h
        subst h
        have ih := run_places fs rl hr w
        simp only [List.mapM_cons, Sem.run_bind, run_size hs, Result.andThen_ok, Sem.run_pure, ih]
def evp (l : List (Nat × Value)) : List (Nat × Operand) → Option (List (Nat × Value))
  | [] => some []
  | (i, x) :: r => match opv l x, evp l r with
    | some v, some vs => some ((i, v) :: vs)
    | _, _ => none
theorem evp_map {l : List (Nat × Value)} {ρ : Operand → Value} (hρ : ∀ x u, opv l x = some u → ρ x = u) : ∀ (ps : List (Nat × Operand)) (vs : List (Nat × Value)), evp l ps = some vs → ps.map (fun p => (p.1, ρ p.2)) = vs
  | [], vs, h => by simp [evp] at h; simp [h]
  | (i, x) :: r, vs, h => by
    simp only [evp] at h
    cases hx : opv l x with
    | none => simp [hx] at h
    | some v =>
      cases hr : evp l r with
      | none => simp [hx, hr] at h
      | some us =>
        simp [hx, hr] at h
        subst h
        simp [hρ x v hx, evp_map hρ r us hr]
def evs (l : List (Nat × Value)) : List Operand → Option (List Value)
  | [] => some []
  | x :: r => match opv l x, evs l r with
    | some v, some vs => some (v :: vs)
    | _, _ => none
theorem evs_map {l : List (Nat × Value)} {ρ : Operand → Value} (hρ : ∀ x u, opv l x = some u → ρ x = u) : ∀ (ps : List Operand) (vs : List Value), evs l ps = some vs → ps.map ρ = vs
  | [], vs, h => by simp [evs] at h; simp [h]
  | x :: r, vs, h => by
    simp only [evs] at h
    cases hx : opv l x with
    | none => simp [hx] at h
    | some v =>
      cases hr : evs l r with
      | none => simp [hx, hr] at h
      | some us =>
        simp [hx, hr] at h
        subst h
        simp [hρ x v hx, evs_map hρ r us hr]

section
variable {P : Program} {l : List (Nat × Value)} {W : World → Prop} {w0 : World} {F : List Nat} {L : List Asr} {Vs : List View}
  {d : Option Tmp} {ty : TypeId} {pos : String} {af : Array Edge} {g : Option (Nat × Bool)}
theorem yl_build {t : TypeId} {parts : List (Nat × Operand)} {vs : List (Nat × Value)} {z : Value} {pl : List (Nat × Nat)} {out : List Value} (hz : zeroOf P t = some z) (hp : placesP P t = some pl)
    (hv : evp l parts = some vs) (hf : fillL (fun i => pl[i]?) (vcells z) vs = some out) : Yl P l W ⟨d, .build t parts.toArray, ty, pos, af, g⟩ (.agg out.toArray) := by
  intro ρ w hρ _
  have e1 : ((parts.toArray.map fun (i, x) => (i, ρ x)) : Array (Nat × Value)).toList = vs := by simpa using evp_map hρ parts vs hv
  unfold placesP at hp
  cases hu : P.underlying t with
  | none => simp [hu] at hp
  | some dd =>
    cases dd <;> simp [hu] at hp
    rename_i fs
    have e2 := run_places (P := P) fs.toList pl (by simpa using hp) w
    have e3 : (fs.mapM (m := Sem) fun f => do pure (f.offset, ← sizeOf f.type)).run P w = .ok pl.toArray w := by
      rw [Array.mapM_eq_mapM_toList, Sem.run_map, e2]; rfl
    have e4 : Instr.fill (fun i => pl.toArray[i]?) z.cells vs = some out.toArray := by
      refine fill_of _ vs z.cells out ?_
      rw [vcells_eq]
      simpa using hf
    simp only [execOp, Instr.build, Sem.run_bind, run_zero hz, Result.andThen_ok, run_underlying hu, e3, e1, e4, Sem.run_pure]
end

section
variable {P : Program} {ops : Array Oper} {Q : Exit → Act → World → Prop} {n : Nat} {ds : List Deferred} {l : List (Nat × Value)} {W : World → Prop} {w0 : World} {F : List Nat} {L : List Asr} {Vs : List View}
  {rest : List Oper} {d : Nat} {ty : TypeId} {pos : String} {af : Array Edge} {g : Option (Nat × Bool)}

theorem newVar_run (t : TypeId) (v : Value) (w : World) : (newVar t v).run P w = .ok ⟨w.heap.size, 0, none⟩ (w.alloc (.cells v.cells t)) := by
  simp [newVar, newRow]
theorem WL.new {op : Op} {o : Obj} {mk : Nat → Value} (hg : GOk ops l g) (hn : Nat.blt d n = true)
    (hr : ∀ (ρ : Operand → Value) (w : World), (∀ x u, opv l x = some u → ρ x = u) → Ws w0 F L Vs w → (execOp ρ ⟨some d, op, ty, pos, af, g⟩).run P w = .ok (.value (mk w.heap.size)) (w.alloc o))
    (h : ∀ b, WL P ops Q n ds ((d, mk b) :: l) (Ws w0 F (blk b o :: L) Vs) rest) :
    WL P ops Q n ds l (Ws w0 F L Vs) (⟨some d, op, ty, pos, af, g⟩ :: rest) := by
  refine WL.step hg fun a w ha hw K hK => ?_
  have := hr a.eval w (fun x u hx => ha.eval hx) hw
  simp only [Oper.wp, this, Oper.upon_value]
  exact hK _ _ (h w.heap.size _ _ (ha.put hn _) (hw.alloc o))
theorem WL.box {T : TypeId} {x : Operand} {v : Value} (hg : GOk ops l g) (hn : Nat.blt d n = true) (hx : opv l x = some v)
    (h : ∀ b, WL P ops Q n ds ((d, .pointer (some ⟨b, 0, none⟩)) :: l) (Ws w0 F (blk b (.cells v.cells T (0, 0)) :: L) Vs) rest) :
    WL P ops Q n ds l (Ws w0 F L Vs) (⟨some d, .box T x, ty, pos, af, g⟩ :: rest) :=
  WL.new (mk := fun b => .pointer (some ⟨b, 0, none⟩)) hg hn (fun ρ w hρ hw => by simp [execOp, Instr.box, hρ x v hx, newVar_run]) h
theorem WL.alloc {T : TypeId} {z : Value} (hg : GOk ops l g) (hn : Nat.blt d n = true) (hz : zeroOf P T = some z)
    (h : ∀ b, WL P ops Q n ds ((d, .pointer (some ⟨b, 0, none⟩)) :: l) (Ws w0 F (blk b (.cells z.cells T (0, 0)) :: L) Vs) rest) :
    WL P ops Q n ds l (Ws w0 F L Vs) (⟨some d, .alloc T, ty, pos, af, g⟩ :: rest) :=
  WL.new (mk := fun b => .pointer (some ⟨b, 0, none⟩)) hg hn (fun ρ w hρ hw => by simp [execOp, Instr.alloc, run_zero hz, newVar_run]) h

/-! ### Stores -/
def setIn (ob : Obj) (o : Nat) (vs : List Value) : Obj := match ob with | .cells c T f => .cells (c.toList.take o ++ vs ++ c.toList.drop (o + vs.length)).toArray T f | x => x
def stOk (ob : Obj) (o k : Nat) : Bool := match ob with | .cells c _ f => Nat.ble (o + k) c.toList.length && (Nat.beq f.1 0 && Nat.beq f.2 0) | _ => false
theorem run_storeVar {t : TypeId} {k b o : Nat} {ob : Obj} {v : Value} {w : World} (hs : sizeP P t = some k) (hl : (vcells v).length = k) (h1 : (vcells v).all (·.oneCell') = true) (hb : w.heap[b]? = some ob) (hok : stOk ob o k = true) :
    (storeVar t ⟨b, o, none⟩ v).run P w = .ok () { w with heap := w.heap.setIfInBounds b (setIn ob o (vcells v)) } := by
  cases ob with
  | cells c T f =>
    obtain ⟨f1, f2⟩ := f
    simp only [stOk, Bool.and_eq_true] at hok
    obtain ⟨h2, h3, h4⟩ := hok
    have e1 := Nat.eq_of_beq_eq_true h3
    have e2 := Nat.eq_of_beq_eq_true h4
    subst e1; subst e2
    have h2 := Nat.le_of_ble_eq_true h2
    have e := run_storeCells_at P b o T (vcells v) 0 c w hb (by simp at h2 ⊢; omega) (fun u hu => List.all_eq_true.1 h1 u hu)
    have hc : v.cells.size = k := by rw [← hl, ← vcells_eq]; simp
    have e0 : (storeVar t ⟨b, o, none⟩ v).run P w = (storeCells ⟨b, o, none⟩ (vcells v)).run P w := by
      simp [storeVar, run_size hs, hc, vcells_eq]
    rw [e0, e]
    have hset := setRow_heap w b c (c.toList.take (o + 0) ++ vcells v ++ c.toList.drop (o + 0 + (vcells v).length)).toArray T (0, 0) hb
    have hlt := lt_of_heap hb
    simp only [setIn, Nat.add_zero] at hset ⊢
    suffices hh : (w.setRow b (c.toList.take o ++ vcells v ++ c.toList.drop (o + (vcells v).length)).toArray).heap = w.heap.setIfInBounds b (.cells (c.toList.take o ++ vcells v ++ c.toList.drop (o + (vcells v).length)).toArray T (0, 0)) by
      rw [← hh]; rfl
    apply Array.ext_getElem?
    intro j
    by_cases hj : b = j
    · subst hj
      rw [hset]
      simp [hlt]
    · rw [Array.getElem?_setIfInBounds_ne hj]
      simp [World.setRow, Array.getElem?_modify, hj]
  | _ => simp [stOk] at hok
theorem WL.store {t : TypeId} {x y : Operand} {b o k : Nat} {ob : Obj} {v : Value} (i : Nat) (hg : GOk ops l g) (hx : opv l x = some (.pointer (some ⟨b, o, none⟩))) (hy : opv l y = some v) (hL : L[i]? = some (blk b ob))
    (hs : sizeP P t = some k) (hl : (vcells v).length = k) (h1 : (vcells v).all (·.oneCell') = true) (hok : stOk ob o k = true)
    (h : WL P ops Q n ds l (Ws w0 F (L.set i (blk b (setIn ob o (vcells v)))) Vs) rest) :
    WL P ops Q n ds l (Ws w0 F L Vs) (⟨none, .store t x y, ty, pos, af, g⟩ :: rest) := by
  refine WL.step hg fun a w ha hw K hK => ?_
  have hb : w.heap[b]? = some ob := hw.kn _ (mem_of_idx hL)
  have hrun : (execOp a.eval ⟨none, .store t x y, ty, pos, af, g⟩).run P w = .ok .skip { w with heap := w.heap.setIfInBounds b (setIn ob o (vcells v)) } := by
    simp only [execOp, ha.eval hx, ha.eval hy, Instr.storeAt, Instr.sureAddr, Sem.run_bind, Sem.run_pure, Result.andThen_ok, run_storeVar hs hl h1 hb hok]
  simp only [Oper.wp, hrun, Oper.upon_skip]
  refine hK _ _ (h _ _ (ha.put_none undef) ?_)
  refine Ws.turn1 hw i hL ⟨rfl, rfl, rfl, by simp, fun j hj hne => ?_⟩ ?_ (by simp [blk]) (by simp [blk])
  · have : b ≠ j := fun e => hne (by simp [blk, e])
    simp [Array.getElem?_setIfInBounds_ne this]
  · show (w.heap.setIfInBounds b _)[b]? = _
    simp [lt_of_heap hb]

/-! ### Calls -/
def Enters (P : Program) (f : FuncId) : Prop := ∀ args w, (callFunc f args).run P w = .ok (.enter f args) w
theorem enters_of {f : FuncId} {fn : Func} (hf : P.funcs[f]? = some fn) (hn : (fn.name == "runtime.NumGoroutine") = false) (hb : fn.body.isNone = false) : Enters P f := fun args w => by
  have hn' : fn.name ≠ "runtime.NumGoroutine" := by simpa using hn
  have hb' : fn.body ≠ none := by intro e; rw [e] at hb; cases hb
  simp [callFunc, hf, hn', hb']
theorem run_call {ρ : Operand → Value} {dst : Option Tmp} {f : FuncId} {args : Array Operand} {ts : Array TypeId} {vs : List Value} {w : World} (hf : Enters P f) (hρ : ∀ x u, opv l x = some u → ρ x = u) (ha : evs l args.toList = some vs) :
    (execOp ρ ⟨dst, .call ⟨.value (.func f), args, ts⟩, ty, pos, af, g⟩).run P w = .ok (.enter f vs.toArray) w := by
  have e : args.map ρ = vs.toArray := by
    apply Array.ext'
    simpa using evs_map hρ _ _ ha
  have e2 : ρ (.func f) = .func (.func f) #[] #[] := hρ (.func f) _ rfl
  simp only [execOp, resolve, e, e2, Deferred.ofValue, Sem.run_bind, Sem.run_pure, Result.andThen_ok, invoke]
  simpa using hf _ w
/-- A call, at large: it returns one of some values, or panics. -/
theorem WL.callx {ι : Type} {f : FuncId} {args : Array Operand} {ts : Array TypeId} {vs : List Value} (hg : GOk ops l g) (hn : Nat.blt d n = true) (hf : Enters P f) (ha : evs l args.toList = some vs)
    (v : ι → Value) (R : ι → World → Prop) (Pn : List PanicEntry → World → Prop)
    (hC : ∀ w, W w → Calls P f vs.toArray w fun e w' => (∃ i, e = .returned (v i) ∧ R i w') ∨ ∃ ch, e = .panicked ch ∧ Pn ch w')
    (hr : ∀ i, WL P ops Q n ds ((d, v i) :: l) (R i) rest) (hp : ∀ ch, WE Q (.panic ch) n ds l (Pn ch)) :
    WL P ops Q n ds l W (⟨some d, .call ⟨.value (.func f), args, ts⟩, ty, pos, af, g⟩ :: rest) := by
  refine WL.step hg fun a w ha' hw K hK => ?_
  have hrun := run_call (P := P) (dst := some d) (ts := ts) (ty := ty) (pos := pos) (af := af) (g := g) (w := w) hf (fun x u hx => ha'.eval hx) ha
  simp only [Oper.wp, hrun, Oper.upon_enter]
  refine (hC w hw).mono fun e w' he => ?_
  rcases he with ⟨i, rfl, h⟩ | ⟨ch, rfl, h⟩
  · exact hK _ _ (hr i _ _ (ha'.put hn _) h)
  · exact hp ch _ _ ha' h
theorem WL.call {ι : Type} {f : FuncId} {args : Array Operand} {ts : Array TypeId} {vs : List Value} (hg : GOk ops l g) (hn : Nat.blt d n = true) (hf : Enters P f) (ha : evs l args.toList = some vs)
    (v : ι → Value) (R : ι → World → Prop)
    (hC : ∀ w, W w → Calls P f vs.toArray w fun e w' => ∃ i, e = .returned (v i) ∧ R i w')
    (hr : ∀ i, WL P ops Q n ds ((d, v i) :: l) (R i) rest) :
    WL P ops Q n ds l W (⟨some d, .call ⟨.value (.func f), args, ts⟩, ty, pos, af, g⟩ :: rest) :=
  WL.callx hg hn hf ha v R (fun _ _ => False) (fun w hw => (hC w hw).mono fun _ _ h => .inl h) hr (fun _ _ _ _ h => h.elim)
/-- It yields just this, and writes nothing that was there. -/
theorem WL.callp {f : FuncId} {args : Array Operand} {ts : Array TypeId} {vs : List Value} {v : Value} (hg : GOk ops l g) (hn : Nat.blt d n = true) (hf : Enters P f) (ha : evs l args.toList = some vs)
    (hC : ∀ w, Ws w0 F L Vs w → Calls P f vs.toArray w fun e w' => e = .returned v ∧ Ext w w')
    (hr : WL P ops Q n ds ((d, v) :: l) (Ws w0 F L Vs) rest) :
    WL P ops Q n ds l (Ws w0 F L Vs) (⟨some d, .call ⟨.value (.func f), args, ts⟩, ty, pos, af, g⟩ :: rest) := by
  refine WL.step hg fun a w ha' hw K hK => ?_
  have hrun := run_call (P := P) (dst := some d) (ts := ts) (ty := ty) (pos := pos) (af := af) (g := g) (w := w) hf (fun x u hx => ha'.eval hx) ha
  simp only [Oper.wp, hrun, Oper.upon_enter]
  refine (hC w hw).mono fun e w' he => ?_
  obtain ⟨rfl, h⟩ := he
  exact hK _ _ (hr _ _ (ha'.put hn _) (hw.ext h))
/-- It yields new data. -/
theorem WL.calld {ι : Type} {f : FuncId} {args : Array Operand} {ts : Array TypeId} {vs : List Value} (hg : GOk ops l g) (hn : Nat.blt d n = true) (hf : Enters P f) (ha : evs l args.toList = some vs)
    (v : ι → Value) (R : View → ι → Prop)
    (hC : ∀ w, Ws w0 F L Vs w → Calls P f vs.toArray w fun e w' => ∃ i, e = .returned (v i) ∧ Ext w w' ∧ R (nv w w') i)
    (hr : ∀ H i, Fresh w0 H → R H i → WL P ops Q n ds ((d, v i) :: l) (Ws w0 F L (H :: Vs)) rest) :
    WL P ops Q n ds l (Ws w0 F L Vs) (⟨some d, .call ⟨.value (.func f), args, ts⟩, ty, pos, af, g⟩ :: rest) := by
  refine WL.step hg fun a w ha' hw K hK => ?_
  have hrun := run_call (P := P) (dst := some d) (ts := ts) (ty := ty) (pos := pos) (af := af) (g := g) (w := w) hf (fun x u hx => ha'.eval hx) ha
  simp only [Oper.wp, hrun, Oper.upon_enter]
  refine (hC w hw).mono fun e w' he => ?_
  obtain ⟨i, rfl, h, hR⟩ := he
  exact hK _ _ (hr (nv w w') i ((nv_fresh w w').mono hw.fr.size) hR _ _ (ha'.put hn _) (hw.view h (nv_le w w') (nv_fresh w w')))
end

section
variable {P : Program} {ops : Array Oper} {Q : Exit → Act → World → Prop} {n : Nat} {ds : List Deferred} {l : List (Nat × Value)} {W : World → Prop} {w0 : World} {F : List Nat} {L : List Asr} {Vs : List View}
  {rest : List Oper} {d : Nat} {ty : TypeId} {pos : String} {af : Array Edge} {g : Option (Nat × Bool)}
/-! ### Slices that are our own, and grow -/
def osl (e : TypeId) (size : Nat) (v : Value) (m : Nat) (xs : List Value) : Asr :=
  ⟨v.ownBlock.toList, fun w => w.ownsRow 0 e size v m xs,
   fun w w' h hw => by
    obtain ⟨h1, h2⟩ := hw
    refine ⟨h1, ?_⟩
    rcases h2 with h2 | ⟨g, cap, cur, hv, h0, hg, r⟩
    · exact .inl h2
    · exact .inr ⟨g, cap, cur, hv, h0, by rw [h g (by simp [hv, Value.ownBlock])]; exact hg, r⟩,
   fun w hw k hk => by
    obtain ⟨h1, h2⟩ := hw
    rcases h2 with ⟨h2, _⟩ | ⟨g, cap, cur, hv, h0, hg, r⟩
    · subst h2; simp [Value.ownBlock] at hk
    · subst hv; simp [Value.ownBlock] at hk; subst hk; exact lt_of_heap hg⟩
theorem Ws.osl_nil {w : World} (h : Ws w0 F L Vs w) (e : TypeId) (size : Nat) : Ws w0 F (osl e size (.slice none 0 0) 0 [] :: L) Vs w := by
  have := Ws.turn (L := []) (L' := [osl e size (.slice none 0 0) 0 []]) (L2 := L) (by simpa using h) (Fr.refl _ _)
    (by intro A hA; simp at hA; subst hA; exact World.ownsRow_nil _ _ _ _) (by simp [osl, Value.ownBlock]) (by simp [osl, Value.ownBlock])
  simpa using this
/-- A made block, as an owned slice. -/
theorem Ws.osl_blk {w : World} (h : Ws w0 F L Vs w) (i : Nat) {b m cap : Nat} {cur : Array Value} {e : TypeId} {size : Nat} (hL : L[i]? = some (blk b (.cells cur e (0, 0)))) (hm : m ≤ cap) (hc : cap ≤ maxLen) (hs : cur.size = cap * size) :
    Ws w0 F (L.set i (osl e size (.slice (some ⟨b, 0, none⟩) m cap) m (cur.toList.take (m * size)))) Vs w := by
  have hb : w.heap[b]? = some (.cells cur e (0, 0)) := h.kn _ (mem_of_idx hL)
  refine Ws.turn1 h i hL (Fr.refl _ _) ?_ (by simp [osl, Value.ownBlock]) (by simp [osl, blk, Value.ownBlock])
  exact ⟨by rw [List.length_take, Array.length_toList, hs]; exact Nat.min_eq_left (Nat.mul_le_mul_right _ hm), .inr ⟨b, cap, cur, rfl, Nat.zero_le _, hb, hm, hc, hs, rfl⟩⟩
structure EltOk (P : Program) (t e : TypeId) (z : Value) (size bytes : Nat) : Prop where
  under : P.underlying t = some (.slice e)
  info : ∃ i, P.info? e = some i ∧ i.zero = some z ∧ i.size = size ∧ i.bytes = bytes
  zs : z.cells.size = size
  pos : 0 < size
def eltB (P : Program) (t : TypeId) : Option (TypeId × Value × Nat × Nat) := match P.underlying t with
  | some (.slice e) => match P.info? e with
    | some i => match i.zero with
      | some z => bif Nat.beq z.cells.size i.size && Nat.blt 0 i.size then some (e, z, i.size, i.bytes) else none
      | none => none
    | none => none
  | _ => none
theorem eltOk_of {t e : TypeId} {z : Value} {size bytes : Nat} (h : eltB P t = some (e, z, size, bytes)) : EltOk P t e z size bytes := by
  unfold eltB at h
  cases hu : P.underlying t with
  | none => simp [hu] at h
  | some dd =>
    cases dd <;> simp [hu] at h
    rename_i e'
    cases hi : P.info? e' with
    | none => simp [hi] at h
    | some i =>
      simp [hi] at h
      cases hz : i.zero with
      | none => simp [hz] at h
      | some z' =>
        simp only [hz] at h
        cases hb : (Nat.beq z'.cells.size i.size && Nat.blt 0 i.size) with
        | false => rw [hb] at h; cases h
        | true =>
          rw [hb] at h
          simp at h
          obtain ⟨rfl, rfl, rfl, rfl⟩ := h
          simp only [Bool.and_eq_true] at hb
          exact ⟨hu, ⟨i, hi, hz, rfl, rfl⟩, Nat.eq_of_beq_eq_true hb.1, Nat.le_of_ble_eq_true hb.2⟩
theorem append_block {t e ty : TypeId} {z v v' : Value} {size bytes m c k : Nat} {a : Addr} {xs news : List Value} {w w' : World} (hE : EltOk P t e z size bytes) (hown : w.ownsRow 0 e size v m xs)
    (hl : news.length = k * size) (hnews : ∀ j u, news[j]? = some u → w.cell? (a.add j) = some u) (h1 : ∀ u ∈ news, u.oneCell' = true)
    (h63 : m + k ≤ maxLen) (hby : (m + k) * bytes ≤ 140737488355328) (hrun : (Builtin.append_ #[t, t] ty #[v, .slice (some a) k c]).run P w = .ok v' w') (hnil : v' = .slice none 0 0 ↔ v = .slice none 0 0 ∧ k = 0) :
    v'.ownBlock = v.ownBlock ∨ v'.ownBlock = some w.heap.size := by
  obtain ⟨inf, hi, hz, hsz, hbt⟩ := hE.info
  subst hsz; subst hbt
  have hsmall : ((m + k : Nat) : Int) ≤ 9223372036854775807 := by simp only [maxLen] at h63; omega
  obtain ⟨hx, h2⟩ := hown
  rcases h2 with ⟨rfl, rfl⟩ | ⟨g, cap, cur, rfl, _, hg, hmc, hcm, hcs, htk⟩
  · by_cases hk : k = 0
    · exact .inl (by rw [hnil.2 ⟨rfl, hk⟩])
    · have e2 := run_append_nil (P := P) w t ty e inf z hE.under hi hz a k c news hl hnews (by omega) (by omega) (by simp at hby; omega)
      rw [hrun] at e2
      injection e2 with e2 _
      exact .inr (by rw [e2]; rfl)
  · by_cases hroom : m + k ≤ cap
    · have e2 := run_append_room (P := P) w t ty e inf hE.under hi g m cap cur hg a k c news hl hnews h1 hroom (by
        rw [hl, hcs, ← Nat.add_mul]; exact Nat.mul_le_mul_right _ hroom)
      rw [hrun] at e2
      injection e2 with e2 _
      exact .inl (by rw [e2]; rfl)
    · have hcell : ∀ j v, xs[j]? = some v → w.cell? ((⟨g, 0, none⟩ : Addr).add j) = some v := by
        intro j u hu
        rw [add_none, ← htk] at *
        refine cell_of_heap hg ?_
        rw [List.getElem?_take] at hu
        split at hu
        · simpa [cellIn] using hu
        · cases hu
      have e2 := run_append_grow (P := P) w t ty e inf z hE.under hi hz ⟨g, 0, none⟩ m cap xs hx hcell a k c news hl hnews (by omega) hsmall (growslice_fits (by omega) hby)
      rw [hrun] at e2
      injection e2 with e2 _
      exact .inr (by rw [e2]; rfl)
theorem WL.append {t e : TypeId} {z v : Value} {size bytes m c k : Nat} {s x : Operand} {a : Addr} {xs news : List Value} (i : Nat) (hg : GOk ops l g) (hn : Nat.blt d n = true) (hE : EltOk P t e z size bytes)
    (hs : opv l s = some v) (hx : opv l x = some (.slice (some a) k c)) (hL : L[i]? = some (osl e size v m xs))
    (hl : news.length = k * size) (hnews : ∀ w, Ws w0 F L Vs w → ∀ j u, news[j]? = some u → w.cell? (a.add j) = some u) (h1 : ∀ u ∈ news, u.oneCell' = true)
    (h63 : m + k ≤ maxLen) (hby : (m + k) * bytes ≤ 140737488355328)
    (h : ∀ v', (v' = .slice none 0 0 ↔ v = .slice none 0 0 ∧ k = 0) → WL P ops Q n ds ((d, v') :: l) (Ws w0 F (L.set i (osl e size v' (m + k) (xs ++ news))) Vs) rest) :
    WL P ops Q n ds l (Ws w0 F L Vs) (⟨some d, .call ⟨.builtin .append, #[s, x], #[t, t]⟩, ty, pos, af, g⟩ :: rest) := by
  refine WL.step hg fun a' w ha hw K hK => ?_
  obtain ⟨inf, hi, hz, hsz, hbt⟩ := hE.info
  have hown : w.ownsRow 0 e size v m xs := hw.kn _ (mem_of_idx hL)
  obtain ⟨v', w', hrun, hown', hgr, hnil⟩ := run_append_own (P := P) w 0 t ty e inf z size bytes hE.under hi hz hsz hbt hE.zs hE.pos v m xs hown a k c news hl (hnews w hw) h1 h63 hby (Nat.zero_le _)
  have hrun' : (execOp a'.eval ⟨some d, .call ⟨.builtin .append, #[s, x], #[t, t]⟩, ty, pos, af, g⟩).run P w = .ok (.value v') w' := by
    simp only [execOp, resolve, List.map_toArray, List.map_cons, List.map_nil, ha.eval hs, ha.eval hx, Sem.run_bind, Sem.run_pure, Result.andThen_ok, invoke, builtin, hrun]
  simp only [Oper.wp, hrun', Oper.upon_value]
  refine hK _ _ (h v' hnil _ _ (ha.put hn _) ?_)
  refine Ws.turn1 hw i hL ⟨hgr.os, hgr.tape, hgr.output, hgr.size, fun j hj hne => hgr.block j hj fun e => hne ?_⟩ hown' ?_ fun j hj => ?_
  · simp [osl, ← e]
  · cases hv : v'.ownBlock <;> simp [osl, hv]
  · simp only [osl, Option.mem_toList] at hj ⊢
    rcases append_block hE hown hl (hnews w hw) h1 h63 hby hrun hnil with e | e
    · exact .inl (by rw [← e]; exact hj)
    · rw [e] at hj; injection hj with hj; exact .inr (by omega)
end
end Go.Bw
