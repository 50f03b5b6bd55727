/- Walks of the functions of this claim, and plain laws on what they compute; each theorem tells its own conditions. -/
import Derived.Test.YtagoencpeflmlaaBwF6
import Derived.Test.YtagoencpeflmlaaBw15
namespace Go.Proofs.Ytagoencpeflmlaa
open Go.Bw
set_option linter.unusedVariables false
set_option linter.unusedSimpArgs false

abbrev IEnt := List UInt8 × Int × Nat
def iv (M : List IEnt) : List MEnt := M.map fun e => (e.1, .int .i64 e.2.1, e.2.2)
def ifind (k : List UInt8) : List IEnt → Nat → Option (Nat × Int)
  | [], _ => none
  | e :: r, i => if (k == e.1) = true then some (i, e.2.1) else ifind k r (i + 1)
def iget (k : List UInt8) (M : List IEnt) : Int := match ifind k M 0 with | some (_, n) => n | none => 0
def iput (k : List UInt8) (n : Int) (M : List IEnt) (c : Nat) : List IEnt := match ifind k M 0 with
  | some (i, _) => M.modify i fun e => (k, n, e.2.2)
  | none => M ++ [(k, n, c)]
def iclock (k : List UInt8) (M : List IEnt) (c : Nat) : Nat := match ifind k M 0 with | some _ => c | none => c + 1
theorem mfind_iv (k : List UInt8) : ∀ (M : List IEnt) (i : Nat), mfind k (iv M) i = (ifind k M i).map fun r => (r.1, .int .i64 r.2)
  | [], _ => rfl
  | e :: r, i => by
    simp only [iv, List.map_cons, mfind, ifind]
    cases (k == e.1)
    · simp only [Bool.false_eq_true, if_false]
      exact mfind_iv k r (i + 1)
    · simp
theorem mget_iv (k : List UInt8) (M : List IEnt) : mget k (iv M) (.int .i64 0) = .int .i64 (iget k M) := by
  unfold mget iget
  rw [mfind_iv]
  cases ifind k M 0 <;> rfl
theorem mput_iv (k : List UInt8) (n : Int) (M : List IEnt) (c : Nat) : mput k (.int .i64 n) (iv M) c = iv (iput k n M c) := by
  unfold mput iput
  rw [mfind_iv]
  cases ifind k M 0 with
  | none => simp [iv]
  | some r =>
    simp only [Option.map_some]
    apply List.ext_getElem?
    intro i
    simp only [iv, List.getElem?_modify, List.getElem?_map]
    cases M[i]? with
    | none => simp
    | some e => by_cases h : r.1 = i <;> simp [h]
theorem mclock_iv (k : List UInt8) (M : List IEnt) (c : Nat) : mclock k (iv M) c = iclock k M c := by
  unfold mclock iclock
  rw [mfind_iv]
  cases ifind k M 0 <;> rfl
def keysOf (M : List IEnt) : List (List UInt8) := M.map (·.1)
theorem ifind_none {k : List UInt8} : ∀ {M : List IEnt} {i : Nat}, ifind k M i = none ↔ k ∉ keysOf M
  | [], _ => by simp [ifind, keysOf]
  | e :: r, i => by
    simp only [ifind, keysOf, List.map_cons, List.mem_cons, not_or]
    by_cases h : k = e.1
    · simp [h]
    · have := ifind_none (k := k) (M := r) (i := i + 1)
      simp [h, keysOf] at this ⊢
      exact this
theorem ifind_at {k : List UInt8} : ∀ {M : List IEnt} {i j : Nat} {n : Int}, ifind k M i = some (j, n) → i ≤ j ∧ (M[j - i]?).map (·.1) = some k
  | [], _, _, _, h => by simp [ifind] at h
  | e :: r, i, j, n, h => by
    simp only [ifind] at h
    split at h
    · rename_i hk
      injection h with h; injection h with h1 h2
      subst h1
      simp at hk
      simp [hk]
    · obtain ⟨h1, h2⟩ := ifind_at h
      refine ⟨by omega, ?_⟩
      have : j - i = (j - (i + 1)) + 1 := by omega
      rw [this]; simpa using h2
theorem keys_put (k : List UInt8) (n : Int) (M : List IEnt) (c : Nat) : keysOf (iput k n M c) = if k ∈ keysOf M then keysOf M else keysOf M ++ [k] := by
  unfold iput
  cases h : ifind k M 0 with
  | none => rw [if_neg (ifind_none.1 h)]; simp [keysOf]
  | some r =>
    obtain ⟨j, v⟩ := r
    have hk := (ifind_at h).2
    have hm : k ∈ keysOf M := by
      cases Classical.em (k ∈ keysOf M) with
      | inl h1 => exact h1
      | inr h1 => rw [ifind_none.2 h1] at h; cases h
    rw [if_pos hm]
    apply List.ext_getElem?
    intro i
    simp only [keysOf, List.getElem?_map, List.getElem?_modify]
    cases he : M[i]? with
    | none => simp
    | some e =>
      by_cases hj : j = i
      · subst hj; simp only [Nat.sub_zero, he] at hk; simp at hk; simp [hk]
      · simp [hj]
/-- What the map holds behind i of the texts, and its clock. -/
def aState (l : List (List UInt8)) : Nat → List IEnt × Nat
  | 0 => ([], 0)
  | i + 1 => (iput (l[i]?.getD []) (IntKind.i64.wrap (iget (l[i]?.getD []) (aState l i).1 + 1)) (aState l i).1 (aState l i).2, iclock (l[i]?.getD []) (aState l i).1 (aState l i).2)
theorem aState_mem (l : List (List UInt8)) (k : List UInt8) : ∀ i, k ∈ keysOf (aState l i).1 ↔ ∃ j, j < i ∧ l[j]?.getD [] = k
  | 0 => by simp [aState, keysOf]
  | i + 1 => by
    have ih := aState_mem l k i
    simp only [aState, keys_put]
    have step : (∃ j, j < i + 1 ∧ l[j]?.getD [] = k) ↔ (∃ j, j < i ∧ l[j]?.getD [] = k) ∨ l[i]?.getD [] = k := by
      constructor
      · rintro ⟨j, hj, e⟩
        rcases Nat.lt_succ_iff_lt_or_eq.1 hj with h | rfl
        · exact .inl ⟨j, h, e⟩
        · exact .inr e
      · rintro (⟨j, hj, e⟩ | e)
        · exact ⟨j, by omega, e⟩
        · exact ⟨i, by omega, e⟩
    rw [step, ← ih]
    split
    · rename_i hm
      constructor
      · exact .inl
      · rintro (h | h)
        · exact h
        · rw [← h]; exact hm
    · simp [eq_comm]
theorem aState_len (l : List (List UInt8)) : ∀ i, (keysOf (aState l i).1).length ≤ i ∧ ((keysOf (aState l i).1).length < i ↔ ∃ i2, i2 < i ∧ ∃ j, j < i2 ∧ l[j]?.getD [] = l[i2]?.getD [])
  | 0 => by simp [aState, keysOf]
  | i + 1 => by
    obtain ⟨h1, h2⟩ := aState_len l i
    have hm := aState_mem l (l[i]?.getD []) i
    simp only [aState, keys_put]
    split
    · rename_i hk
      obtain ⟨j, hj, e⟩ := hm.1 hk
      exact ⟨by omega, ⟨fun _ => ⟨i, by omega, j, hj, e⟩, fun _ => by omega⟩⟩
    · rename_i hk
      refine ⟨by simp; omega, ?_⟩
      rw [List.length_append, List.length_singleton]
      constructor
      · intro h
        obtain ⟨i2, a, b⟩ := h2.1 (by omega)
        exact ⟨i2, by omega, b⟩
      · rintro ⟨i2, hi2, j, hj, e⟩
        rcases Nat.lt_succ_iff_lt_or_eq.1 hi2 with h | rfl
        · have := h2.2 ⟨i2, h, j, hj, e⟩; omega
        · exact absurd (hm.2 ⟨j, hj, e⟩) hk
theorem alike_twice (l : List (List UInt8)) : decide (((aState l l.length).1.length : Int) < (l.length : Int)) = twiceB l := by
  have h := (aState_len l l.length).2
  simp only [keysOf, List.length_map] at h
  rw [Bool.eq_iff_iff]
  unfold twiceB
  simp only [decide_eq_true_eq, List.any_eq_true, List.mem_range, beq_iff_eq]
  constructor
  · intro hlt
    obtain ⟨i, hi, j, hj, e⟩ := h.1 (by omega)
    exact ⟨i, hi, j, hj, e.symm⟩
  · rintro ⟨i, hi, j, hj, e⟩
    have := h.2 ⟨i, hi, j, hj, e.symm⟩
    omega
theorem um143 : Try.prog.underlying 143 = some (.map 9 3) := by kernel_rfl
theorem zr3 : zeroOf Try.prog 3 = some (.int .i64 0) := by kernel_rfl

theorem alike_any (H : View) (a : Option Addr) (c : Nat) (l : List (List UInt8)) (w : World) (hH : Le H w) (hm : Sl rdStr 1 H a c l) :
    Calls Try.prog 75 #[.slice a l.length c] w fun e w' => e = .returned (.bool (twiceB l)) ∧ Ext w w' := by
  have hcap := hm.cap
  have hmax := hm.max
  refine enter Try.func75 rfl 23 rfl rfl ?_
  refine WC.world (W' := Ws w [] [] [H]) (fun _ e => by subst e; exact Ws.init (by simp [hH])) ?_
  refine WC.seq ?_
  refine WC.region ?_
  refine WL.val (.inl rfl) rfl (yl_assign rfl) ?_
  refine WL.nil ?_
  refine WE.then_normal ?_
  refine WC.seq ?_
  refine WC.region ?_
  refine WL.mkmap (.inl rfl) rfl fun b6 => ?_
  refine WL.val (.inl rfl) rfl (yl_assign rfl) ?_
  refine WL.nil ?_
  refine WE.then_normal ?_
  refine WC.seq ?_
  refine WC.seq ?_
  refine WC.region ?_
  refine WL.val (.inl rfl) rfl (yl_move rfl) ?_
  refine WL.val (.inl rfl) rfl (yl_len es92 rfl) ?_
  refine WL.val (.inl rfl) rfl (yl_move rfl) ?_
  refine WL.nil ?_
  refine WE.then_normal ?_
  refine WC.block ?_
  refine WC.loopK (ι := Nat) (fun i => [(9, .int .i64 (i : Int))]) [(0, _), (2, _), (3, _), (7, _), (8, _)] (fun i => Ws w [] [blk b6 (mobj (iv (aState l i).1) (aState l i).2)] [H]) (fun i => i ≤ l.length) (fun i => l.length - i) 0 (Nat.zero_le _) (sc rfl (sc rfl (sc rfl (sc rfl (sc rfl (sc rfl sn)))))) (fun _ h => h) ?_
  intro i hi
  refine WC.seq ?_
  refine WC.region ?_
  refine WL.val (.inl rfl) rfl (yl_lt rfl rfl) ?_
  refine WL.nil ?_
  refine WE.then_normal ?_
  refine WC.seq ?_
  refine WC.cond rfl (fun hc0 => ?_) (fun hc0 => ?_)
  ·
    have hlt : i < l.length := by simpa using hc0
    obtain ⟨pb, po, ha, hrow⟩ := hm.elt i (l[i]?.getD []) (by rw [List.getElem?_eq_getElem hlt]; rfl)
    have hrow : vc H pb (po + i * 1) = some (st (l[i]?.getD [])) := hrow
    refine WC.skip ?_
    refine WE.then_normal ?_
    refine WC.seq ?_
    refine WC.block ?_
    refine WC.seq ?_
    refine WC.region ?_
    refine WL.val (.inl rfl) rfl (yl_iao es92 rfl rfl ha (by omega)) ?_
    refine WL.val (.inl rfl) rfl (yl_ld 0 na9 rfl rfl (hrow)) ?_
    refine WL.val (.inl rfl) rfl (yl_assign rfl) ?_
    refine WL.nil ?_
    refine WE.then_normal ?_
    refine WC.region ?_
    refine WL.val (.inl rfl) rfl (yl_move rfl) ?_
    refine WL.val (.inl rfl) rfl (yl_move rfl) ?_
    refine WL.val (.inl rfl) rfl (yl_mlook 0 um143 us9 zr3 rfl rfl rfl) ?_
    rw [mget_iv]
    refine WL.val (.inl rfl) rfl (yl_addw rfl rfl) ?_
    refine WL.mset 0 (.inl rfl) um143 us9 rfl rfl rfl rfl ?_
    rw [mput_iv, mclock_iv]
    refine WL.nil ?_
    refine WE.block_normal ?_
    refine WE.then_normal ?_
    refine WC.region ?_
    refine WL.val (.inl rfl) rfl (yl_inc rfl rfl rfl (by omega)) ?_
    refine WL.val (.inl rfl) rfl (yl_move rfl) ?_
    refine WL.nil ?_
    exact WE.again (i + 1) (by omega) (by omega) (sc rfl (sc rfl (sc rfl (sc rfl (sc rfl (sc rfl sn)))))) (fun _ h => h)
  ·
    have hie : i = l.length := by simp at hc0; omega
    subst hie
    refine WC.exit ?_
    refine WE.then_exit ?_
    refine WE.then_exit ?_
    refine WE.block_hit ?_
    refine WE.then_normal ?_
    refine WC.seq ?_
    refine WC.region ?_
    refine WL.val (.inl rfl) rfl (yl_move rfl) ?_
    refine WL.val (.inl rfl) rfl (yl_mlen 0 um143 rfl rfl) ?_
    refine WL.val (.inl rfl) rfl (yl_move rfl) ?_
    refine WL.val (.inl rfl) rfl (yl_len es92 rfl) ?_
    refine WL.val (.inl rfl) rfl (yl_lt rfl rfl) ?_
    refine WL.val (.inl rfl) rfl (yl_assign rfl) ?_
    refine WL.nil ?_
    refine WE.then_normal ?_
    refine WC.ret ?_
    refine WE.ret1 rfl rfl fun w' hw => ?_
    exact ⟨by rw [← alike_twice]; simp [iv], hw.fr⟩

end Go.Proofs.Ytagoencpeflmlaa
