/- The law PeepTells: whatever image comes in, the call returns true and leaves the image as it read; no condition. -/
import Derived.Test.YtagoencpeflmlaaBwT9
import Derived.WalkKit
import Derived.ProofKit
import Derived.OpenShut
import Derived.ChangeOld
import Derived.Below
import Derived.Carry
import Derived.Deep.Slices
import Derived.Lib.SmallJoins
import Derived.JoinedCond
namespace Go.Proofs.Ytagoencpeflmlaa
open Go.Bw
set_option linter.unusedVariables false
set_option linter.unusedSimpArgs false

open Go.ChangeShapes Go.WideShapes Go.ChangeAt Go.RowKit Go.Joins Go.Deep
theorem own : ownKnob Try.prog.godebug = none := by kernel_rfl
theorem laidOut : laidOutB Try.prog = true := by kernel_rfl
theorem exists_list {α : Type} (p : Nat → α → Prop) : ∀ n, (∀ i, i < n → ∃ x, p i x) → ∃ l : List α, l.length = n ∧ ∀ (i : Nat) (x : α), l[i]? = some x → p i x
  | 0, _ => ⟨[], rfl, by simp⟩
  | n + 1, h => by
    obtain ⟨l, hl, hp⟩ := exists_list p n fun i hi => h i (by omega)
    obtain ⟨x, hx⟩ := h n (by omega)
    refine ⟨l ++ [x], by simp [hl], fun i y hy => ?_⟩
    rcases Nat.lt_trichotomy i n with h1 | h1 | h1
    · rw [List.getElem?_append_left (by omega)] at hy; exact hp i y hy
    · subst h1
      rw [List.getElem?_append_right (by omega), hl] at hy
      simp at hy; subst hy; exact hx
    · rw [List.getElem?_eq_none (by simp; omega)] at hy; cases hy
theorem vc_of_cell {w : World} {b o : Nat} {v : Value} (h : w.cell? ⟨b, o, none⟩ = some v) : vc (hv w) b o = some v := by
  unfold vc hv
  unfold World.cell? at h
  cases hb : w.heap[b]? with
  | none => simp [hb] at h
  | some ob => cases ob <;> simp [hb, cellIn] at h ⊢ <;> exact h

section
variable {H : Type} {enc : TypeId × Value → H} {w : World} {base : Nat} {spare : Nat → Bool} {held : Bool}
variable {P : Program}
theorem open_ins {ti tk : TypeId} {f0 f1 f2 : Field} {fuel : Nat} {cs : List Value} {x : DataW H × List MemPlace} (hu : P.underlying ti = some (.struct #[f0, f1, f2])) (hk : P.underlying tk = some (.int .i64))
    (ht : f0.type = tk ∧ f1.type = tk ∧ f2.type = tk) (ho : f0.offset = 0 ∧ f1.offset = 1 ∧ f2.offset = 2) (hc : P.cellsOf ti = 3) (hc1 : P.cellsOf tk = 1)
    (h : DataW.trod enc P w base spare held fuel ti cs = some x) : ∃ i : Ins, cs = i.cells := by
  obtain ⟨ys, n, _, _, hlen, hyl, hf⟩ := DataW.trod_struct hu h
  have hl3 : cs.length = 3 := hlen.trans hc
  have hy3 : ys.length = 3 := hyl
  have g0 := hf 0 f0 rfl
  have g1 := hf 1 f1 rfl
  have g2 := hf 2 f2 rfl
  rw [ht.1, ho.1] at g0
  rw [ht.2.1, ho.2.1] at g1
  rw [ht.2.2, ho.2.2] at g2
  match cs, hl3, ys, hy3 with
  | [a, b, c], _, [y0, y1, y2], _ =>
    simp only [hc1, List.drop_zero, List.drop_succ_cons, List.take_succ_cons, List.take_zero, List.getElem?_cons_zero, List.getElem?_cons_succ] at g0 g1 g2
    obtain ⟨k0, e0, _⟩ := DataW.trod_int hk g0
    obtain ⟨k1, e1, _⟩ := DataW.trod_int hk g1
    obtain ⟨k2, e2, _⟩ := DataW.trod_int hk g2
    injection e0 with e0 _
    injection e1 with e1 _
    injection e2 with e2 _
    subst e0 e1 e2
    exact ⟨⟨k0, k1, k2⟩, rfl⟩
theorem open_code {ti ts : TypeId} {fuel : Nat} {cs : List Value} {x : DataW H × List MemPlace} (hu : P.underlying ts = some (.slice ti)) (hc : P.cellsOf ti = 3) (hI : ∀ (n : Nat) (cs' : List Value) (y : DataW H × List MemPlace), DataW.trod enc P w base spare held n ti cs' = some y → ∃ i : Ins, cs' = i.cells)
    (h : DataW.trod enc P w base spare held fuel ts cs = some x) (hsp : ∀ a n c, cs = [.slice (some a) n c] → a.spot = none) :
    ∃ (a : Option Addr) (c : Nat) (code : List Ins), cs = [.slice a code.length c] ∧ Sl rdIns 3 (hv w) a c code := by
  rcases Go.Deep.open_slice hu h with ⟨rfl, _⟩ | ⟨a, len, cap, m, n, D, Pl, rfl, hb, hl, hm, hmm, hx, hi⟩
  · exact ⟨none, 0, [], rfl, Sl.nil⟩
  · have hle : len ≤ m := by rw [hmm]; split <;> omega
    have hs := hsp a len cap rfl
    obtain ⟨b, o, s⟩ := a
    obtain rfl : s = none := hs
    obtain ⟨code, hlen, hcode⟩ := exists_list (fun i (x : Ins) => rdIns (hv w) b (o + i * 3) x) len (fun i him => by
      obtain ⟨cs', hcs, ht'⟩ := hi i (by omega)
      rw [hc] at hcs
      obtain ⟨x, rfl⟩ := hI _ _ _ ht'
      obtain ⟨_, _, hat⟩ := World.cells?_some hcs
      refine ⟨x, fun j v hj => ?_⟩
      have hj3 : j < 3 := (List.getElem?_eq_some_iff.1 hj).1
      have := hat j hj3
      rw [hj] at this
      rw [add_none, add_none] at this
      exact vc_of_cell this)
    subst hlen
    exact ⟨_, cap, code, rfl, by omega, by unfold maxLen at hm; omega, by simp, fun i x hx => ⟨b, o, rfl, hcode i x hx⟩⟩
theorem okWide_spot {r : Reach} {t : TypeId} {ts : List TypeId} {cs : Array Value} {i : Nat} {e u : TypeId} {a : Addr} {n c : Nat} (ht : P.cellTypes P.depth t = some ts) (hi : i < ts.length) (hu : ts[i]? = some u) (he : P.underlying u = some (.slice e)) (h : Row.okWide P w r base t cs) (hv : cs[i]? = some (.slice (some a) n c)) : a.spot = none := by
  obtain ⟨ts', h1, _, h2⟩ := h
  rw [ht] at h1
  injection h1 with h1
  subst h1
  obtain ⟨u', hu', hok⟩ := h2 i _ hv
  rw [Nat.mod_eq_of_lt hi, hu] at hu'
  injection hu' with hu'
  subst hu'
  unfold Cell.okWide at hok
  simp only [he] at hok
  unfold Cell.ok at hok
  simp only [he] at hok
  exact hok.2.2.2.1
theorem okWide_agg {r : Reach} {t : TypeId} {fs : Array Field} {cs : Array Value} (hu : P.underlying t = some (.struct fs)) (h : Value.okWide P w r base t (.agg cs)) : Row.okWide P w r base t cs := by
  unfold Value.okWide at h
  simp only [hu] at h
  obtain ⟨cs', e, _, hr⟩ := h
  injection e with e
  rw [e]; exact hr
theorem open_image {tm ti ts tk : TypeId} {g0 g1 f0 f1 f2 : Field} {b0 : Nat} {v : Value} {d : DataW H} {p : List MemPlace}
    (hm : P.underlying tm = some (.struct #[g0, g1])) (hm1 : oneCellFields P #[g0, g1] = true) (hm2 : P.cellsOf tm = 2) (hg : g0.type = ts ∧ g1.type = tk) (hct : P.cellTypes P.depth tm = some [ts, tk])
    (hs : P.underlying ts = some (.slice ti)) (hu : P.underlying ti = some (.struct #[f0, f1, f2])) (hk : P.underlying tk = some (.int .i64))
    (ht : f0.type = tk ∧ f1.type = tk ∧ f2.type = tk) (ho : f0.offset = 0 ∧ f1.offset = 1 ∧ f2.offset = 2) (hc : P.cellsOf ti = 3) (hc1 : P.cellsOf tk = 1)
    (hval : Value.okWide P w .any b0 tm v) (h : DataW.Trod enc P w base spare held tm v d p) :
    ∃ (a : Option Addr) (c : Nat) (code : List Ins) (data : Int), v = .agg #[.slice a code.length c, .int .i64 data] ∧ Sl rdIns 3 (hv w) a c code := by
  obtain ⟨v0, v1, y0, y1, n, rfl, _, _, h0, h1⟩ := open_agg2 hm hm1 hm2 hval h
  have hrow := okWide_agg hm hval
  rw [hg.1] at h0
  rw [hg.2] at h1
  obtain ⟨a, c, code, e0, hsl⟩ := open_code hs hc (fun n cs' y hy => open_ins hu hk ht ho hc hc1 hy) h0 (fun a n c e => by
    injection e with e _
    subst e
    exact okWide_spot hct (i := 0) (by simp) rfl hs hrow rfl)
  injection e0 with e0 _
  subst e0
  obtain ⟨k, e1, _⟩ := DataW.trod_int hk h1
  injection e1 with e1 _
  subst e1
  exact ⟨a, c, code, k, rfl, hsl⟩
end
set_option maxRecDepth 100000 in
theorem openImage {W : World} {H : Type} {enc : TypeId × Value → H} {base b0 : Nat} {spare : Nat → Bool} {held : Bool} {v : Value} {d : DataW H} {p : List MemPlace} (hval : Value.okWide Try.prog W .any b0 24 v) (h : DataW.Trod enc Try.prog W base spare held 24 v d p) :
    ∃ (a : Option Addr) (c : Nat) (code : List Ins) (data : Int), v = .agg #[.slice a code.length c, .int .i64 data] ∧ Sl rdIns 3 (hv W) a c code :=
  open_image Try.underlying24 (by kernel_rfl) (by kernel_rfl) ⟨rfl, rfl⟩ (by kernel_rfl) Try.underlying22 Try.underlying65 Try.underlying3 ⟨rfl, rfl, rfl⟩ ⟨rfl, rfl, rfl⟩ (by kernel_rfl) (by kernel_rfl) hval h

set_option maxRecDepth 100000 in
theorem peepTells_lifted (os : Os) (started : os.Started) (H : Type) (enc : TypeId × Value → H) :
    ReturnsInHanded {} Try.checked os 3 .any (Rows.peepTellsSpec.pre6 enc Try.prog Try.f3 Rows.peepTellsRow.domain false) (Rows.peepTellsSpec.post enc Try.prog Try.f3 false true false false) := by
  refine returnsInHanded_of_change (C := Try.checked) own started (by kernel_rfl) Try.func3
    (ChangeSpec.witness6 (enc := enc) (C := Try.checked) false ⟨#[], #[.agg #[.slice none 0 0, .int .i64 0]], []⟩ 8 (by kernel_rfl) (by kernel_rfl) (by kernel_rfl) (by kernel_rfl)) ?_
  intro W base args ds gs before hval0 hW hcnd _
  have hval : ∀ (j : Nat) t v, Try.f3.params[j]? = some t → args[j]? = some v → Value.okWide Try.prog W .any base t v := hval0
  have hW' := hW
  obtain ⟨p, q, hA0, hV, rfl, hfz, hnd⟩ := hW
  have hA : DataW.TrodAll enc Try.prog W 0 (fun _ => true) true Try.f3.params.toList args.toList ds p := hA0
  rw [Try.params3] at hA hval
  obtain ⟨v0, vs0, d0, ds0, p0, q0, hargs, rfl, rfl, h0, r0⟩ := trodAll_cons hA
  obtain ⟨rfl, rfl, rfl⟩ := trodAll_nil r0
  obtain rfl : args = #[v0] := by cases args; simp_all
  obtain ⟨rfl, rfl⟩ := trodVars_none hV
  have k0 := h0
  have lt0 : ∀ x ∈ p0, x.block < W.heap.size := by obtain ⟨m, hm⟩ := k0; exact DataW.trod_lt m _ _ _ hm
  obtain ⟨a, c, code, data, rfl, hs⟩ := openImage (hval 0 24 v0 rfl rfl) h0
  clear hA0 hval0
  refine (peepTells_any (hv W) a c code data W (hv_le W) hs).mono fun e W' ⟨he, hx⟩ => ?_
  subst he
  have bel := hx.below
  exact ⟨_, rfl, _, _, _, [], _, [], hW', trodAll_mk1 (shut_bool Try.underlying4 _), (trodAll_cons_mk (Below.trod laidOut (by kernel_rfl) (of_decide_eq_true (by kernel_rfl)) k0 bel lt0) trodAll_mk0), rfl, bel.frame _, fun h => by cases h⟩
theorem peepTells_over : Rows.peepTellsRow.holds Try.pinned (OpenSpec.ofChange Rows.peepTellsSpec) :=
  OpenClaim.holds_of_wide 3 Try.f3 rfl rfl rfl rfl rfl rfl rfl ⟨rfl, rfl, rfl, rfl, rfl⟩ rfl rfl rfl rfl rfl (by kernel_rfl) Try.func3 (by kernel_rfl)
    (of_decide_eq_true (by kernel_rfl)) (by unfold Func.isWrapper; first | (rw [if_pos (by decide +kernel)]; kernel_rfl) | (rw [if_neg (by decide +kernel)]; exact ⟨rfl, rfl⟩))
    (fun os started H enc _ => peepTells_lifted os started H enc)
theorem peepTells_proved : Rows.PeepTellsSaid := peepTells_over




end Go.Proofs.Ytagoencpeflmlaa
