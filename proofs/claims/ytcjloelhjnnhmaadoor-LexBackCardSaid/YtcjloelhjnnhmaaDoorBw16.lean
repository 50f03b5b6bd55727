/- Own base: rules that step through the code of a function, with what is known of its slots and of the memory kept as a list; no condition. -/
import Derived.Test.YtcjloelhjnnhmaaDoorBw15
import Derived.Defers
import Derived.Recover
namespace Go.Bw
open Go Go.RowKit

/-! ### Panics, defers, recovers -/
section
variable {P : Program} {ops : Array Oper} {Q : Exit → Act → World → Prop} {n : Nat} {ds : List Deferred} {l : List (Nat × Value)} {W : World → Prop} {w0 : World} {F : List Nat} {L : List Asr} {Vs : List View}
  {rest : List Oper} {d : Nat} {ty : TypeId} {pos : String} {af : Array Edge} {g : Option (Nat × Bool)}
/-- A call that turns own things in front, and returns or panics. -/
theorem WL.callwx {ι κ : Type} {f : FuncId} {args : Array Operand} {ts : Array TypeId} {vs : List Value} (L1 L2 : List Asr) (hg : GOk ops l g) (hn : Nat.blt d n = true) (hf : Enters P f) (ha : evs l args.toList = some vs) (hL : L = L1 ++ L2)
    (v : ι → Value) (L1' : ι → List Asr) (R : ι → Prop) (ch : κ → List PanicEntry) (Lp : κ → List Asr) (Rp : κ → Prop) (Vs' : List View) (hV : ∀ H ∈ Vs', H ∈ Vs)
    (hC : ∀ w, Ws w (L1.flatMap Asr.ids) L1 Vs' w → Calls P f vs.toArray w fun e w' => (∃ i, e = .returned (v i) ∧ R i ∧ Ws w (L1.flatMap Asr.ids) (L1' i) Vs' w') ∨ (∃ j, e = .panicked (ch j) ∧ Rp j ∧ Ws w (L1.flatMap Asr.ids) (Lp j) Vs' w'))
    (hp : ∀ j, Rp j → WE Q (.panic (ch j)) n ds l (Ws w0 F (Lp j ++ L2) Vs))
    (hr : ∀ i, R i → WL P ops Q n ds ((d, v i) :: l) (Ws w0 F (L1' i ++ L2) Vs) rest) :
    WL P ops Q n ds l (Ws w0 F L Vs) (⟨some d, .call ⟨.value (.func f), args, ts⟩, ty, pos, af, g⟩ :: rest) := by
  subst hL
  refine WL.callx hg hn hf ha v (fun i w' => R i ∧ Ws w0 F (L1' i ++ L2) Vs w') (fun c w' => ∃ j, c = ch j ∧ Rp j ∧ Ws w0 F (Lp j ++ L2) Vs w') (fun w hw => (hC w (hw.self.drops hV)).mono fun e w' h => ?_) (fun i => ?_) (fun c => ?_)
  · rcases h with ⟨i, he, hR, h⟩ | ⟨j, he, hR, h⟩
    · exact .inl ⟨i, he, hR, hw.back h⟩
    · exact .inr ⟨_, he, j, rfl, hR, hw.back h⟩
  · intro a w ha' hw
    exact hr i hw.1 a w ha' hw.2
  · rintro a w ha' ⟨j, rfl, hR, hw⟩
    exact hp j hR a w ha' hw
theorem WL.callvwx {ι κ : Type} {f : FuncId} {cx : Operand} {caps : Array Value} {args : Array Operand} {ts : Array TypeId} {vs : List Value} (L1 L2 : List Asr) (hg : GOk ops l g) (hn : Nat.blt d n = true) (hf : Enters P f) (hcx : opv l cx = some (.func (.func f) #[] caps)) (ha : evs l args.toList = some vs) (hL : L = L1 ++ L2)
    (v : ι → Value) (L1' : ι → List Asr) (R : ι → Prop) (ch : κ → List PanicEntry) (Lp : κ → List Asr) (Rp : κ → Prop) (Vs' : List View) (hV : ∀ H ∈ Vs', H ∈ Vs)
    (hC : ∀ w, Ws w (L1.flatMap Asr.ids) L1 Vs' w → Calls P f (vs.toArray ++ caps) w fun e w' => (∃ i, e = .returned (v i) ∧ R i ∧ Ws w (L1.flatMap Asr.ids) (L1' i) Vs' w') ∨ (∃ j, e = .panicked (ch j) ∧ Rp j ∧ Ws w (L1.flatMap Asr.ids) (Lp j) Vs' w'))
    (hp : ∀ j, Rp j → WE Q (.panic (ch j)) n ds l (Ws w0 F (Lp j ++ L2) Vs))
    (hr : ∀ i, R i → WL P ops Q n ds ((d, v i) :: l) (Ws w0 F (L1' i ++ L2) Vs) rest) :
    WL P ops Q n ds l (Ws w0 F L Vs) (⟨some d, .call ⟨.value cx, args, ts⟩, ty, pos, af, g⟩ :: rest) := by
  subst hL
  refine WL.callvx hg hn hf hcx ha v (fun i w' => R i ∧ Ws w0 F (L1' i ++ L2) Vs w') (fun c w' => ∃ j, c = ch j ∧ Rp j ∧ Ws w0 F (Lp j ++ L2) Vs w') (fun w hw => (hC w (hw.self.drops hV)).mono fun e w' h => ?_) (fun i => ?_) (fun c => ?_)
  · rcases h with ⟨i, he, hR, h⟩ | ⟨j, he, hR, h⟩
    · exact .inl ⟨i, he, hR, hw.back h⟩
    · exact .inr ⟨_, he, j, rfl, hR, hw.back h⟩
  · intro a w ha' hw
    exact hr i hw.1 a w ha' hw.2
  · rintro a w ha' ⟨j, rfl, hR, hw⟩
    exact hp j hR a w ha' hw
theorem yl_mki {W : World → Prop} {dd : Option Tmp} {t : TypeId} {x : Operand} {v : Value} (ht : P.concrete t = true) (hx : opv l x = some v) : Yl P l W ⟨dd, .makeInterface t x, ty, pos, af, g⟩ (.iface t v) :=
  fun ρ w hρ _ => by
    have e : (Instr.makeInterface t v).run P w = .ok (.iface t v) w := run_makeInterface (h := ht) ..
    simp [execOp, hρ x v hx, e]
theorem WL.panic {x : Operand} {t : TypeId} {v : Value} {dd : Option Tmp} (hg : GOk ops l g) (hx : opv l x = some (.iface t v)) (h : WE Q (.panic [⟨.iface t v, false, false⟩]) n ds l W) : WL P ops Q n ds l W (⟨dd, .panic x, ty, pos, af, g⟩ :: rest) := by
  refine WL.step hg fun a w ha hw K hK => ?_
  have : (execOp a.eval ⟨dd, .panic x, ty, pos, af, g⟩).run P w = .halt (.panic (.iface t v)) w := by
    have e : (Instr.panic (.iface t v)).run P w = .halt (.panic (.iface t v)) w := rfl
    simp [execOp, ha.eval hx, e]
  simp only [Oper.wp, this, Oper.upon_panic]
  exact h a w ha hw
theorem WL.defer {cx : Operand} {f : FuncId} {caps : List Value} {ts : Array TypeId} (hg : GOk ops l g) (hcx : opv l cx = some (.func (.func f) #[] caps.toArray))
    (h : WL P ops Q n (⟨.fn (.func f) caps.toArray, #[]⟩ :: ds) l W rest) : WL P ops Q n ds l W (⟨none, .defer ⟨.value cx, #[], ts⟩, ty, pos, af, g⟩ :: rest) := by
  refine WL.step hg fun a w ha hw K hK => ?_
  have : (execOp a.eval ⟨none, .defer ⟨.value cx, #[], ts⟩, ty, pos, af, g⟩).run P w = .ok (.defer ⟨.fn (.func f) caps.toArray, #[]⟩) w := by
    simp [execOp, resolve, ha.eval hcx, Deferred.ofValue]
  simp only [Oper.wp, this, Oper.upon_defer]
  refine hK _ _ (h _ _ ⟨ha.size, ?_, ha.vals⟩ hw)
  show _ :: a.defers = _
  rw [ha.defs]
theorem enterD {f : FuncId} {fn : Func} {c : Code} {vs : List Value} {w : World} {R : Ending → World → Prop} (hf : P.funcs[f]? = some fn) (hb : fn.body = some c)
    (m : Nat) (hm : fn.ntmps = m) (hle : Nat.ble vs.length m = true) (h : WC P c (bodyPostD P fn R) m [] (env0 0 vs) (fun w' => w' = w)) : Calls P f vs.toArray w R := by
  refine calls_of_wp_defers hf hb (h _ _ ?_ rfl)
  have hle' := Nat.le_of_ble_eq_true hle
  subst hm
  refine ⟨by simp; omega, rfl, fun t v hv => ?_⟩
  obtain ⟨_, h2⟩ := lk_env0 vs 0 t v hv
  simp only [Nat.sub_zero] at h2
  have hlt : t < vs.length := by
    rcases Nat.lt_or_ge t vs.length with h | h
    · exact h
    · simp [List.getElem?_eq_none h] at h2
  simp [Array.getD_eq_getD_getElem?, Array.getElem?_append, hlt]
  simp [List.getElem?_eq_getElem hlt] at h2
  exact h2
/-- What the results are, at an end. -/
def Rs (P : Program) (fn : Func) (l : List (Nat × Value)) (W : World → Prop) (v : Value) : Prop := ∀ (tmps : Array Value) w, (∀ t u, lk l t = some u → tmps.getD t undef = u) → W w → (results fn tmps).run P w = .ok v w
/-- One of the results. -/
def rvS (tmps : Array Value) : ResultVar → Sem Value
  | .tmp t => pure (tmps.getD t undef)
  | .cell a t => do loadVar t (← asAddr (tmps.getD a undef))
theorem results_eq (fn : Func) (tmps : Array Value) : results fn tmps = (do let vs ← fn.results.mapM (rvS tmps); pure (if h : vs.size = 1 then vs[0] else .tuple vs)) := by
  have e : (fun r : ResultVar => match r with | .tmp t => (pure (tmps.getD t undef) : Sem Value) | .cell a t => do loadVar t (← asAddr (tmps.getD a undef))) = rvS tmps := by funext r; cases r <;> rfl
  rw [← e]; rfl
def Rv1 (P : Program) (l : List (Nat × Value)) (W : World → Prop) (r : ResultVar) (v : Value) : Prop := ∀ (tmps : Array Value) w, (∀ t u, lk l t = some u → tmps.getD t undef = u) → W w → (rvS tmps r).run P w = .ok v w
theorem rv_tmp {t : Nat} {v : Value} (h : lk l t = some v) : Rv1 P l W (.tmp t) v := fun tmps w ht _ => by simp only [rvS, ht t v h, Sem.run_pure]
theorem rv_one {a b o : Nat} {t : TypeId} {v : Value} {ob : Obj} (i : Nat) (ha : lk l a = some (.pointer (some ⟨b, o, none⟩))) (hL : L[i]? = some (blk b ob)) (hc : cellIn ob o = some v) (ht : nonAgg P t = true) : Rv1 P l (Ws w0 F L Vs) (.cell a t) v := fun tmps w h hw => by
  simp only [rvS, h a _ ha, asAddr, Sem.run_bind, Sem.run_pure, Result.andThen_ok, run_loadVar_one ht (cell_of_heap (hw.kn _ (mem_of_idx hL)) hc)]
theorem rv_agg {a b o k : Nat} {t : TypeId} {ob : Obj} (i : Nat) (ha : lk l a = some (.pointer (some ⟨b, o, none⟩))) (hL : L[i]? = some (blk b ob)) (ht : aggOf P t = some k) (hl : (cellsIn ob o k).length = k) : Rv1 P l (Ws w0 F L Vs) (.cell a t) (.agg (cellsIn ob o k).toArray) := fun tmps w h hw => by
  have hrun : (loadVar t ⟨b, o, none⟩).run P w = .ok (.agg (cellsIn ob o k).toArray) w := run_loadVar_agg ht hl fun j v hj => by
    have hk : w.heap[b]? = some ob := hw.kn _ (mem_of_idx hL)
    refine cell_of_heap hk ?_
    cases ob <;> simp [cellsIn, cellIn] at *
    rw [List.getElem?_take] at hj
    split at hj
    · simpa using hj
    · cases hj
  simp only [rvS, h a _ ha, asAddr, Sem.run_bind, Sem.run_pure, Result.andThen_ok, hrun]
theorem rs_1 {fn : Func} {r : ResultVar} {v : Value} (hr : fn.results = #[r]) (h : Rv1 P l W r v) : Rs P fn l W v := fun tmps w ht hw => by
  have h1 := h tmps w ht hw
  simp [results_eq, hr, Array.mapM_eq_mapM_toList, List.mapM_cons, List.mapM_nil, h1]
theorem rs_2 {fn : Func} {r s : ResultVar} {v x : Value} (hr : fn.results = #[r, s]) (h : Rv1 P l W r v) (h' : Rv1 P l W s x) : Rs P fn l W (.tuple #[v, x]) := fun tmps w ht hw => by
  have h1 := h tmps w ht hw
  have h2 := h' tmps w ht hw
  simp [results_eq, hr, Array.mapM_eq_mapM_toList, List.mapM_cons, List.mapM_nil, h1, h2]
theorem rs_3 {fn : Func} {r s u : ResultVar} {v x y : Value} (hr : fn.results = #[r, s, u]) (h : Rv1 P l W r v) (h' : Rv1 P l W s x) (h'' : Rv1 P l W u y) : Rs P fn l W (.tuple #[v, x, y]) := fun tmps w ht hw => by
  have h1 := h tmps w ht hw
  have h2 := h' tmps w ht hw
  have h3 := h'' tmps w ht hw
  simp [results_eq, hr, Array.mapM_eq_mapM_toList, List.mapM_cons, List.mapM_nil, h1, h2, h3]
theorem rs_0 {fn : Func} (hr : fn.results = #[]) : Rs P fn l W (.tuple #[]) := fun tmps w _ _ => results_none hr tmps P w
/-- Any results. -/
theorem WE.retR {fn : Func} {R : Ending → World → Prop} {v : Value} (hr : Rs P fn l W v) (h : ∀ w, W w → R (.returned v) w) : WE (bodyPost P fn R) .ret n [] l W :=
  fun a w ha hw => bodyPost_ret (hr a.tmps w ha.vals hw) ha.defs (h w hw)
/-- A return where one call is deferred. -/
theorem WE.retD {fn : Func} {R : Ending → World → Prop} {f : FuncId} {caps : List Value} {W' : World → Prop} {v : Value} (hf : Enters P f)
    (hC : ∀ w, W w → CallsD P f caps.toArray .returning w fun e u' w' => e = .returned (.tuple #[]) ∧ u' = .returning ∧ W' w')
    (hr : Rs P fn l W' v) (h : ∀ w, W' w → R (.returned v) w) : WE (bodyPostD P fn R) .ret n [⟨.fn (.func f) caps.toArray, #[]⟩] l W := by
  intro a w ha hw
  show Leaves P fn a.tmps R a.defers .returning w
  rw [ha.defs]
  refine ⟨by simp, .func f, caps.toArray, f, caps.toArray, rfl, ?_, (hC w hw).mono fun e u' w' he => ?_⟩
  · simp only [invoke]
    simpa using hf caps.toArray w
  · obtain ⟨rfl, rfl, hw'⟩ := he
    exact ⟨v, hr a.tmps w' ha.vals hw', h w' hw'⟩
/-- A panic where one call is deferred, which recovers. -/
theorem WE.panD {fn : Func} {R : Ending → World → Prop} {f : FuncId} {caps : List Value} {W' : World → Prop} {v pv : Value} (hf : Enters P f)
    (hC : ∀ w, W w → CallsD P f caps.toArray (.panicking [⟨pv, false, false⟩]) w fun e u' w' => e = .returned (.tuple #[]) ∧ u' = .panicking [⟨pv, true, false⟩] ∧ W' w')
    (hr : Rs P fn l W' v) (h : ∀ w, W' w → R (.returned v) w) : WE (bodyPostD P fn R) (.panic [⟨pv, false, false⟩]) n [⟨.fn (.func f) caps.toArray, #[]⟩] l W := by
  intro a w ha hw
  show Leaves P fn a.tmps R a.defers (.panicking [⟨pv, false, false⟩]) w
  rw [ha.defs]
  refine ⟨by simp, .func f, caps.toArray, f, caps.toArray, rfl, ?_, (hC w hw).mono fun e u' w' he => ?_⟩
  · simp only [invoke]
    simpa using hf caps.toArray w
  · obtain ⟨rfl, rfl, hw'⟩ := he
    exact ⟨v, hr a.tmps w' ha.vals hw', h w' hw'⟩
/-- A return with nothing deferred, in a function that defers elsewhere. -/
theorem WE.retD0 {fn : Func} {R : Ending → World → Prop} {v : Value} (hr : Rs P fn l W v) (h : ∀ w, W w → R (.returned v) w) : WE (bodyPostD P fn R) .ret n [] l W := by
  intro a w ha hw
  show Leaves P fn a.tmps R a.defers .returning w
  rw [ha.defs]
  exact ⟨v, hr a.tmps w ha.vals hw, h w hw⟩

/-- A deferred closure whose first operation recovers. -/
def Rcv (u : FrameMode) (rv : Value) (u' : FrameMode) : Prop := (u = .returning ∧ rv = .nilIface ∧ u' = .returning) ∨ ∃ v, u = .panicking [⟨v, false, false⟩] ∧ rv = v ∧ u' = .panicking [⟨v, true, false⟩]
theorem wpS_recover {id : Nat} {o : Oper} {os : List Oper} {d : Nat} {y : Code} {c₀ : Frame} {cs : List Frame} {a : Act} {w : World} {rv : Value} {u' : FrameMode} {Q : Exit → Act → World → Prop} {Qs : Exit → Act → List Frame → World → Prop}
    (hod : o.dst = some d) (hog : o.guard = none) (hrun : (execOp a.eval o).run P w = .ok .recover w) (hu : Rcv c₀.mode rv u')
    (hQ : ∀ e a w, Q e a w → Qs e a ({ c₀ with mode := u' } :: cs) w)
    (h : wpList P (o :: os).toArray (Exit.then (y.wp P Q) Q) os (a.put (some d) rv) w) : (Code.seq (.region id (o :: os).toArray false) y).wpS P Qs a (c₀ :: cs) w := by
  refine wpS_seq ?_
  intro b k hb hro
  have hops : (o :: os).toArray[0]? = some o := rfl
  have hwant : Region.wanted o (yielded (o :: os).toArray a.tmps) = true := by simp [Region.wanted, hog]
  have hg := stepG_op (P := P) (b := b) (k := k) (cs := c₀ :: cs) (w := w) (rest := List.range' 1 os.length) hops hwant
  have hk : (b.at a (.inRegion (o :: os).toArray (0 :: List.range' 1 os.length) :: k)).kind = .deferred := hb
  have htr := tryRecover_deferred hk (c₀ :: cs)
  have hfin : ∀ v, (b.at a (.inRegion (o :: os).toArray (0 :: List.range' 1 os.length) :: k)).finish v = b.at (a.put (some d) v) (.inRegion (o :: os).toArray (List.range' 1 os.length) :: k) := by
    intro v; rw [Frame.finish_at, hops, ← hod]; rfl
  have hstep : step P (lone (b.at a (.inRegion (o :: os).toArray (0 :: List.range' 1 os.length) :: k)) (c₀ :: cs) w) = .next (lone (b.at (a.put (some d) rv) (.inRegion (o :: os).toArray (List.range' 1 os.length) :: k)) ({ c₀ with mode := u' } :: cs) w) := by
    refine step_lone_go ?_
    rw [hg, ← hfin]
    simp only [Frame.at] at htr ⊢
    rcases hu with ⟨hm, rfl, rfl⟩ | ⟨v, hm, rfl, rfl⟩
    · simp [stepG.apply, hrun, htr, recoverD, hm]
      rw [← hm]
    · simp [stepG.apply, hrun, htr, recoverD, hm]
  have hl : wpOps P (o :: os).toArray (Exit.then (y.wp P Q) Q) (List.range' 1 os.length) (a.put (some d) rv) w := by
    rw [wpOps_eq_wpList os 1 (fun j => by simp [Nat.add_comm 1 j])]; exact h
  obtain ⟨e, a', w', hq, harr⟩ := wp_ops _ _ _ hl b k ({ c₀ with mode := u' } :: cs)
  have hs0 : step P (lone (b.at a (.code (.region id (o :: os).toArray false) :: k)) (c₀ :: cs) w) = .next (lone (b.at a (.inRegion (o :: os).toArray (0 :: List.range' 1 os.length) :: k)) (c₀ :: cs) w) := by
    have := step_region (P := P) (b := b) (a := a) (k := k) (cs := c₀ :: cs) (w := w) (ops := (o :: os).toArray) (id := id)
    rw [this]
    simp [List.range_eq_range', List.range'_succ]
  refine ⟨e, a', _, w', ?_, .of_steps (.head hs0 (.one hstep)) harr⟩
  cases e with
  | normal => exact wpS_of_wp (wp_mono hq fun e a w h => hQ e a w h)
  | _ => exact hQ _ _ _ hq
theorem closD {f : FuncId} {fn : Func} {id : Nat} {o : Oper} {os : List Oper} {d : Nat} {y : Code} {vs : List Value} {w : World} {rv : Value} {u u' : FrameMode} {R : Ending → World → Prop} (hf : P.funcs[f]? = some fn) (hb : fn.body = some (.seq (.region id (o :: os).toArray false) y))
    (m : Nat) (hm : fn.ntmps = m) (hle : Nat.ble vs.length m = true) (hod : o.dst = some d) (hdm : Nat.blt d m = true) (hog : o.guard = none) (hop : ∀ (ρ : Operand → Value), (execOp ρ o).run P w = .ok .recover w) (hu : Rcv u rv u')
    (h : WL P (o :: os).toArray (Exit.then (y.wp P (bodyPost P fn R)) (bodyPost P fn R)) m [] ((d, rv) :: env0 0 vs) (fun w' => w' = w) os) : CallsD P f vs.toArray u w fun e u2 w' => u2 = u' ∧ R e w' := by
  refine callsD_of_wpS hf hb fun c₀ cs hc => ?_
  refine wpS_recover (Q := bodyPost P fn R) hod hog (hop _) (by rw [hc]; exact hu) (fun e a w hq => ?_) (h _ _ ?_ rfl)
  · cases e with
    | normal => exact ⟨hq.1, u', rfl, hq.2.choose, hq.2.choose_spec.1, rfl, hq.2.choose_spec.2⟩
    | ret => exact ⟨hq.1, u', rfl, hq.2.choose, hq.2.choose_spec.1, rfl, hq.2.choose_spec.2⟩
    | panic ch => exact ⟨hq.1, u', rfl, rfl, hq.2⟩
    | outgrown => exact ⟨u', rfl, hq⟩
    | exit i => exact hq
    | goto i => exact hq
  · have hle' := Nat.le_of_ble_eq_true hle
    subst hm
    have hA : Ag fn.ntmps [] (env0 0 vs) { tmps := vs.toArray ++ Array.replicate (fn.ntmps - vs.toArray.size) undef, defers := [] } := by
      refine ⟨by simp; omega, rfl, fun t v hv => ?_⟩
      obtain ⟨_, h2⟩ := lk_env0 vs 0 t v hv
      simp only [Nat.sub_zero] at h2
      have hlt : t < vs.length := by
        rcases Nat.lt_or_ge t vs.length with h | h
        · exact h
        · simp [List.getElem?_eq_none h] at h2
      simp [Array.getD_eq_getD_getElem?, Array.getElem?_append, hlt]
      simp [List.getElem?_eq_getElem hlt] at h2
      exact h2
    exact hA.put hdm rv
theorem yl_nein {t u : TypeId} {x : Operand} {W : World → Prop} {dd : Option Tmp} (ht : P.underlying t = some (.interface (P.methodsAt t))) (hx : opv l x = some .nilIface) : Yl P l W ⟨dd, .binOp .neq t x (.const .nilIface) u, ty, pos, af, g⟩ (.bool false) := by
  intro ρ w hρ _
  have hy : ρ (.const .nilIface) = .nilIface := hρ _ _ rfl
  simp only [execOp, hρ x _ hx, hy, Sem.run_bind]
  simp [eqGuard_nil_constR, run_neq_nil_nil (h := ht)]
theorem yl_neih {t u s : TypeId} {x : Operand} {v : Value} {W : World → Prop} {dd : Option Tmp} (ht : P.underlying t = some (.interface (P.methodsAt t))) (hx : opv l x = some (.iface s v)) : Yl P l W ⟨dd, .binOp .neq t x (.const .nilIface) u, ty, pos, af, g⟩ (.bool true) := by
  intro ρ w hρ _
  have hy : ρ (.const .nilIface) = .nilIface := hρ _ _ rfl
  have hg : (eqGuard .neq t x (.const .nilIface) (.iface s v) .nilIface) = pure () := by cases x <;> rfl
  simp only [execOp, hρ x _ hx, hy, Sem.run_bind, hg]
  simp [run_neq_held_nil (h := ht)]
end
end Go.Bw
