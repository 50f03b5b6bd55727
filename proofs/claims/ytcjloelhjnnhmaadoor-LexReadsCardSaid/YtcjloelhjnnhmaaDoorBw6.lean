/- Own base: rules that step through the code of a function, with what is known of its slots and of the memory kept as a list; no condition. -/
import Derived.Test.YtcjloelhjnnhmaaDoorBw5
namespace Go.Bw
open Go Go.RowKit

section
variable {P : Program} {ops : Array Oper} {Q : Exit → Act → World → Prop} {n : Nat} {ds : List Deferred} {l l' : List (Nat × Value)} {W : World → Prop} {w0 : World} {F : List Nat} {L : List Asr} {Vs : List View}
  {rest : List Oper} {d : Nat} {ty : TypeId} {pos : String} {af : Array Edge} {g : Option (Nat × Bool)}

theorem WC.loopK {ι : Type} {c : Code} (U : ι → List (Nat × Value)) (l' : List (Nat × Value)) (Wi : ι → World → Prop) (R : ι → Prop) (μ : ι → Nat) (i0 : ι) (hR : R i0) (hE : ∀ p ∈ U i0 ++ l', lk l p.1 = some p.2) (hW : ∀ w, W w → Wi i0 w)
    (round : ∀ i, R i → WC P c (Exit.then (fun a' w' => ∃ j, μ j < μ i ∧ R j ∧ Ag n ds (U j ++ l') a' ∧ Wi j w') Q) n ds (U i ++ l') (Wi i)) : WC P (.loop c) Q n ds l W :=
  WC.loop (fun i => U i ++ l') Wi R μ i0 hR hE hW round
/-- The same, the world as it is at the loop's head. -/
theorem WC.loopW {ι : Type} {c : Code} (U : ι → List (Nat × Value)) (l' : List (Nat × Value)) (R : ι → Prop) (μ : ι → Nat) (i0 : ι) (hR : R i0) (hE : ∀ p ∈ U i0 ++ l', lk l p.1 = some p.2)
    (round : ∀ i, R i → WC P c (Exit.then (fun a' w' => ∃ j, μ j < μ i ∧ R j ∧ Ag n ds (U j ++ l') a' ∧ W w') Q) n ds (U i ++ l') W) : WC P (.loop c) Q n ds l W :=
  WC.loop (fun i => U i ++ l') (fun _ => W) R μ i0 hR hE (fun _ h => h) round
/-- A point at which ways meet: what is known there is said anew. -/
theorem WC.cut {c y : Code} {Q' : Exit → Act → World → Prop} (l' : List (Nat × Value)) (W' : World → Prop) (hx : WC P c (Exit.then (fun a w => Ag n ds l' a ∧ W' w) Q') n ds l W)
    (hy : WC P y Q n ds l' W') (hQ : Q' = Q) : WC P (.seq c y) Q n ds l W := by
  subst hQ
  intro a w ha hw
  refine wp_seq (wp_mono (hx a w ha hw) fun e a' w' hq => ?_)
  cases e with
  | normal => exact hy a' w' hq.1 hq.2
  | _ => exact hq
theorem WE.meet {Q : Exit → Act → World → Prop} {l' : List (Nat × Value)} {W' : World → Prop} (hE : ∀ p ∈ l', lk l p.1 = some p.2) (hW : ∀ w, W w → W' w) :
    WE (Exit.then (fun a w => Ag n ds l' a ∧ W' w) Q) .normal n ds l W := fun a w ha hw => ⟨ha.sub hE, hW w hw⟩

theorem WL.make {t e : TypeId} {x y : Operand} {kl kc : IntKind} {ln cn : Int} {z : Value} {size bytes : Nat} (hg : GOk ops l g) (hn : Nat.blt d n = true) (hE : EltOk P t e z size bytes)
    (hx : opv l x = some (.int kl ln)) (hy : opv l y = some (.int kc cn)) (h0 : 0 ≤ ln) (h1 : ln ≤ cn) (hb : (bytes : Int) * cn ≤ 281474976710656) (h63 : cn ≤ 9223372036854775807)
    (h : ∀ b, WL P ops Q n ds ((d, .slice (some ⟨b, 0, none⟩) ln.toNat cn.toNat) :: l) (Ws w0 F (blk b (.cells (madeCells z.cells (cn.toNat * size)) e (0, 0)) :: L) Vs) rest) :
    WL P ops Q n ds l (Ws w0 F L Vs) (⟨some d, .makeSlice t x y, ty, pos, af, g⟩ :: rest) := by
  obtain ⟨inf, hi, hz, hsz, hbt⟩ := hE.info
  refine WL.new (mk := fun b => .slice (some ⟨b, 0, none⟩) ln.toNat cn.toNat) hg hn (fun ρ w hρ hw => ?_) h
  have := run_make (P := P) w t e inf z hE.under hi hz kl kc ln cn h0 h1 (by rw [hbt]; exact hb) h63
  rw [hsz] at this
  simp [execOp, hρ x _ hx, hρ y _ hy, this]
theorem madeCells_one (v : Value) (hv : v.cells = #[v]) (k : Nat) : madeCells v.cells (k * 1) = (List.replicate k v).toArray := by
  rw [hv]
  apply Array.ext'
  simp only [madeCells, Nat.mul_one]
  apply List.ext_getElem?
  intro j
  rcases Nat.lt_or_ge j k with h | h
  · simp [h, Nat.mod_one]
  · simp [h]
theorem WL.storeAs {t : TypeId} {x y : Operand} {b o k : Nat} {ob : Obj} {v : Value} (i : Nat) (ob' : Obj) (hg : GOk ops l g) (hx : opv l x = some (.pointer (some ⟨b, o, none⟩))) (hy : opv l y = some v) (hL : L[i]? = some (blk b ob))
    (hs : sizeP P t = some k) (hl : (vcells v).length = k) (h1 : (vcells v).all (·.oneCell') = true) (hok : stOk ob o k = true) (he : setIn ob o (vcells v) = ob')
    (h : WL P ops Q n ds l (Ws w0 F (L.set i (blk b ob')) Vs) rest) :
    WL P ops Q n ds l (Ws w0 F L Vs) (⟨none, .store t x y, ty, pos, af, g⟩ :: rest) := WL.store i hg hx hy hL hs hl h1 hok (by rw [he]; exact h)
end

section
variable {P : Program} {l : List (Nat × Value)} {W : World → Prop} {w0 : World} {F : List Nat} {L : List Asr} {Vs : List View}
  {d : Option Tmp} {ty : TypeId} {pos : String} {af : Array Edge} {g : Option (Nat × Bool)}
theorem yl_slhi {t : TypeId} {x y : Operand} {a : Option Addr} {m c s : Nat} {k : IntKind} {h : Int} (hs : elemSz P t = some s) (hx : opv l x = some (.slice a m c)) (hsp : ∀ p, a = some p → p.spot = none) (hy : opv l y = some (.int k h)) (h0 : 0 ≤ h) (h1 : h ≤ c) :
    Yl P l W ⟨d, .slice t x none (some y) none, ty, pos, af, g⟩ (.slice a h.toNat c) := by
  intro ρ w hρ _
  unfold elemSz at hs
  cases hu : P.underlying t with
  | none => simp [hu] at hs
  | some dd =>
    cases dd <;> simp [hu] at hs
    rename_i e
    obtain ⟨inf, hi, rfl⟩ := hs
    have ea : (if c = 0 then a else a.map (·.add (0 * inf.size))) = a := by
      split
      · rfl
      · cases a with
        | none => rfl
        | some p => simp [Addr.add]
    have hc : h ≤ (c : Int) := h1
    simp [execOp, hρ x _ hx, hρ y _ hy, Instr.sliceAt, Instr.slice, Instr.sliceBounds, Instr.sliceBound, asIntOf, run_underlying hu, sizeOf, typeInfo, hi, h0, hc]
    simpa using ea
end

/-! ### Data that are only read -/
/-- Cells in a row. -/
def RdC (H : View) (b o : Nat) (cs : List Value) : Prop := ∀ j v, cs[j]? = some v → vc H b (o + j) = some v
theorem RdC.mono {H H' : View} (h : VLe H H') {b o : Nat} {cs : List Value} (r : RdC H b o cs) : RdC H' b o cs := fun j v hv => h.cell (r j v hv)
/-- A slice whose elements have k cells each, element i as 'rd' reads it. -/
structure Sl {α : Type} (rd : View → Nat → Nat → α → Prop) (k : Nat) (H : View) (a : Option Addr) (c : Nat) (l : List α) : Prop where
  cap : l.length ≤ c
  max : c ≤ 9223372036854775807
  spot : ∀ p, a = some p → p.spot = none
  elt : ∀ i x, l[i]? = some x → ∃ b o, a = some ⟨b, o, none⟩ ∧ rd H b (o + i * k) x
theorem Sl.mono {α : Type} {rd : View → Nat → Nat → α → Prop} {k : Nat} {H H' : View} {a : Option Addr} {c : Nat} {l : List α} (hm : ∀ b o x, rd H b o x → rd H' b o x) (h : Sl rd k H a c l) : Sl rd k H' a c l :=
  ⟨h.cap, h.max, h.spot, fun i x hx => let ⟨b, o, ha, hb⟩ := h.elt i x hx; ⟨b, o, ha, hm _ _ _ hb⟩⟩
theorem Sl.nil {α : Type} {rd : View → Nat → Nat → α → Prop} {k : Nat} {H : View} : Sl rd k H none 0 ([] : List α) := ⟨Nat.le_refl _, by decide, by simp, by simp⟩
section
variable {P : Program} {l : List (Nat × Value)} {W : World → Prop} {d : Option Tmp} {ty : TypeId} {pos : String} {af : Array Edge} {g : Option (Nat × Bool)}
theorem yl_iao {t : TypeId} {x y : Operand} {a : Option Addr} {b o n c s : Nat} {k : IntKind} {i : Nat} (hs : elemSz P t = some s) (hx : opv l x = some (.slice a n c)) (hy : opv l y = some (.int k (i : Int))) (ha : a = some ⟨b, o, none⟩) (h1 : i < n) :
    Yl P l W ⟨d, .indexAddr t x y, ty, pos, af, g⟩ (.pointer (some ⟨b, o + i * s, none⟩)) := by subst ha; exact yl_iak hs hx hy h1
theorem yl_iai {t : TypeId} {x y : Operand} {a : Option Addr} {b o n c s : Nat} {k : IntKind} {i : Int} (hs : elemSz P t = some s) (hx : opv l x = some (.slice a n c)) (hy : opv l y = some (.int k i)) (ha : a = some ⟨b, o, none⟩) (h0 : 0 ≤ i) (h1 : i < n) :
    Yl P l W ⟨d, .indexAddr t x y, ty, pos, af, g⟩ (.pointer (some ⟨b, o + i.toNat * s, none⟩)) := by subst ha; exact yl_ia hs hx hy h0 h1
end
end Go.Bw
