/- Own base: rules that step through the code of a function, with what is known of its slots and of the memory kept as a list; no condition. -/
import Derived.Test.YtcjloelhjnnhmaaDoorBw10
namespace Go.Bw
open Go Go.RowKit

/-! ### Structs of numbers, texts and bools are held against each other -/
def kindP (P : Program) (t : TypeId) : Option Nat := match P.underlying t with | some (.int _) => some 0 | some .string => some 1 | some .bool => some 2 | _ => none
def kindsL (P : Program) : Nat → List Field → Option (List Nat)
  | _, [] => some []
  | i, f :: r => bif Nat.beq f.offset i && !(f.name == "_") then (match kindP P f.type, kindsL P (i + 1) r with | some k, some ks => some (k :: ks) | _, _ => none) else none
def flatSt (P : Program) (t : TypeId) : Option (List Nat) := match P.underlying t with
  | some (.struct fs) => bif P.stoodInHeld t || P.eqGuardType P.depth t then none else kindsL P 0 fs.toList
  | _ => none
def eqK : List Nat → List Value → List Value → Option Bool
  | [], [], [] => some true
  | 0 :: ks, .int k a :: xs, .int k' b :: ys => match eqK ks xs ys with | some r => if k = k' then some ((a == b) && r) else none | none => none
  | 1 :: ks, .string a :: xs, .string b :: ys => match eqK ks xs ys with | some r => some ((a.data.toList == b.data.toList) && r) | none => none
  | 2 :: ks, .bool a :: xs, .bool b :: ys => match eqK ks xs ys with | some r => some ((a == b) && r) | none => none
  | _, _, _ => none
section
variable {P : Program}
theorem run_part {t : TypeId} {k : Nat} (h : kindP P t = some k) (cs : Array Value) (off : Nat) (v : Value) (hv : cs[off]? = some v) (w : World) : (part t cs off).run P w = .ok v w := by
  have hn : nonAgg P t = true := by
    unfold kindP at h
    unfold nonAgg
    cases hu : P.underlying t with
    | none => simp [hu] at h
    | some d => cases d <;> simp_all
  simp [part, run_isAgg_non hn, hv]
theorem run_eqFields (d : Nat) : ∀ (fs : List Field) (i : Nat) (ks : List Nat) (xs ys : List Value) (pre pre' : List Value) (r : Bool) (w : World), kindsL P i fs = some ks → eqK ks xs ys = some r → pre.length = i → pre'.length = i →
    (Op.eqFields (d + 1) (pre ++ xs).toArray (pre' ++ ys).toArray fs).run P w = .ok r w
  | [], i, ks, xs, ys, pre, pre', r, w, hk, he, _, _ => by
    simp [kindsL] at hk
    subst hk
    cases xs <;> cases ys <;> simp [eqK] at he
    subst he
    simp [Op.eqFields]
  | f :: fs, i, ks, xs, ys, pre, pre', r, w, hk, he, hp, hp' => by
    simp only [kindsL] at hk
    cases hb : (Nat.beq f.offset i && !(f.name == "_")) with
    | false => rw [hb] at hk; cases hk
    | true =>
      rw [hb] at hk
      simp only [cond_true] at hk
      simp only [Bool.and_eq_true] at hb
      have ho := Nat.eq_of_beq_eq_true hb.1
      have hname : f.name ≠ "_" := by simpa using hb.2
      cases hkk : kindP P f.type with
      | none => simp [hkk] at hk
      | some k =>
        cases hkr : kindsL P (i + 1) fs with
        | none => simp [hkk, hkr] at hk
        | some kr =>
          simp [hkk, hkr] at hk
          subst hk
          cases xs with
          | nil => cases ys <;> simp [eqK] at he
          | cons x xs =>
            cases ys with
            | nil => rcases k with _ | _ | _ | k <;> cases x <;> simp [eqK] at he
            | cons y ys =>
              have hx : ((pre ++ x :: xs).toArray)[f.offset]? = some x := by simp [ho, ← hp]
              have hy : ((pre' ++ y :: ys).toArray)[f.offset]? = some y := by simp [ho, ← hp']
              have key : ∀ b r', (Op.equalIn (d + 1) f.type x y).run P w = .ok b w → eqK kr xs ys = some r' → r = (b && r') → (Op.eqFields (d + 1) (pre ++ x :: xs).toArray (pre' ++ y :: ys).toArray (f :: fs)).run P w = .ok r w := by
                intro b r' h1 h2 h3
                have ih := run_eqFields d fs (i + 1) kr xs ys (pre ++ [x]) (pre' ++ [y]) r' w hkr h2 (by simp [hp]) (by simp [hp'])
                simp only [List.append_assoc, List.singleton_append] at ih
                simp only [Op.eqFields, hname, ne_eq, not_false_eq_true, if_true, Sem.run_bind, run_part hkk _ _ _ hx, run_part hkk _ _ _ hy, Result.andThen_ok, h1]
                cases b
                · simp [h3]
                · simp [h3, ih]
              unfold kindP at hkk
              cases hu : P.underlying f.type with
              | none => simp [hu] at hkk
              | some td =>
                cases he' : eqK kr xs ys with
                | none => cases td <;> simp [hu] at hkk <;> subst hkk <;> cases x <;> cases y <;> simp [eqK, he'] at he
                | some r' =>
                  cases td <;> simp [hu] at hkk <;> subst hkk <;> cases x <;> cases y <;> simp [eqK, he'] at he
                  · exact key _ r' (run_equalIn_bool' w d _ _ _ hu) he' he.symm
                  · obtain ⟨rfl, he⟩ := he
                    exact key _ r' (run_equalIn_int w d _ _ _ _ _ hu) he' he.symm
                  · refine key _ r' (run_equalIn_string w d _ _ _ hu) he' ?_
                    rw [ByteArray.toList_eq, ByteArray.toList_eq]
                    rw [← he]; simp
variable {l : List (Nat × Value)} {W : World → Prop} {d : Option Tmp} {ty : TypeId} {pos : String} {af : Array Edge} {g : Option (Nat × Bool)}
theorem run_eqst {t : TypeId} {ks : List Nat} {xs ys : List Value} {r : Bool} (hf : flatSt P t = some ks) (he : eqK ks xs ys = some r) (w : World) :
    (Op.equalIn 10000 t (.agg xs.toArray) (.agg ys.toArray)).run P w = .ok r w ∧ P.eqGuardType P.depth t = false := by
  unfold flatSt at hf
  cases hu : P.underlying t with
  | none => simp [hu] at hf
  | some td =>
    cases td <;> simp [hu] at hf
    rename_i fs
    cases hb : (P.stoodInHeld t || P.eqGuardType P.depth t) with
    | true => rw [hb] at hf; cases hf
    | false =>
      rw [hb] at hf
      simp only [Bool.or_eq_false_iff] at hb
      have hfs : P.fieldsOf t = fs := by simp [Program.fieldsOf, hu]
      refine ⟨?_, hb.2⟩
      rw [run_equalIn_struct w 9999 t _ _ (by rw [hfs]; exact hu) hb.1, hfs]
      simpa using run_eqFields 9998 fs.toList 0 ks xs ys [] [] r w (by simpa using hf) he rfl rfl
theorem yl_eqst {t u : TypeId} {x y : Operand} {ks : List Nat} {xs ys : List Value} {r : Bool} (hf : flatSt P t = some ks) (hx : opv l x = some (.agg xs.toArray)) (hy : opv l y = some (.agg ys.toArray)) (he : eqK ks xs ys = some r) :
    Yl P l W ⟨d, .binOp .eql t x y u, ty, pos, af, g⟩ (.bool r) := by
  intro ρ w hρ _
  obtain ⟨h1, h2⟩ := run_eqst hf he w
  simp only [execOp, hρ x _ hx, hρ y _ hy, Sem.run_bind, run_eqGuard_agg w _ _ _ _ _ _ h2, Result.andThen_ok, run_eql_struct w, h1, Sem.run_pure]
theorem yl_nest {t u : TypeId} {x y : Operand} {ks : List Nat} {xs ys : List Value} {r : Bool} (hf : flatSt P t = some ks) (hx : opv l x = some (.agg xs.toArray)) (hy : opv l y = some (.agg ys.toArray)) (he : eqK ks xs ys = some r) :
    Yl P l W ⟨d, .binOp .neq t x y u, ty, pos, af, g⟩ (.bool (!r)) := by
  intro ρ w hρ _
  obtain ⟨h1, h2⟩ := run_eqst hf he w
  simp only [execOp, hρ x _ hx, hρ y _ hy, Sem.run_bind, run_eqGuard_agg w _ _ _ _ _ _ h2, Result.andThen_ok, run_neq_struct w, h1, Sem.run_pure]
end

/-! ### Division -/
section
variable {P : Program} {l : List (Nat × Value)} {W : World → Prop} {d : Option Tmp} {ty : TypeId} {pos : String} {af : Array Edge} {g : Option (Nat × Bool)}
theorem yl_quo {t u : TypeId} {x y : Operand} {k : IntKind} {a b : Int} (hx : opv l x = some (.int k a)) (hy : opv l y = some (.int k b)) (hb : b ≠ 0) : Yl P l W ⟨d, .binOp .quo t x y u, ty, pos, af, g⟩ (.int k (k.wrap (a.tdiv b))) :=
  fun ρ w hρ _ => by simp [execOp, hρ x _ hx, hρ y _ hy, eqGuard, binOp, Op.intDiv, hb]
theorem yl_rem {t u : TypeId} {x y : Operand} {k : IntKind} {a b : Int} (hx : opv l x = some (.int k a)) (hy : opv l y = some (.int k b)) (hb : b ≠ 0) : Yl P l W ⟨d, .binOp .rem t x y u, ty, pos, af, g⟩ (.int k (a.tmod b)) :=
  fun ρ w hρ _ => by simp [execOp, hρ x _ hx, hρ y _ hy, eqGuard, binOp, Op.intDiv, hb]
end
end Go.Bw
namespace Go.Bw
open Go Go.RowKit
/-- The cells of a slice, one behind the other. -/
theorem Sl.flat {α : Type} {rd : View → Nat → Nat → α → Prop} {k : Nat} {H : View} {b o c : Nat} {l : List α} {f : α → List Value} (h : Sl rd k H (some ⟨b, o, none⟩) c l) (hf : ∀ x, (f x).length = k) (hk : 0 < k) (hrd : ∀ b o x, rd H b o x → RdC H b o (f x)) :
    ∀ j u, (l.flatMap f)[j]? = some u → vc H b (o + j) = some u := by
  intro j u hu
  have hj := (List.getElem?_eq_some_iff.1 hu).1
  rw [flat_length hf] at hj
  have hi : j / k < l.length := Nat.div_lt_of_lt_mul (by rw [Nat.mul_comm]; exact hj)
  have hx : l[j / k]? = some l[j / k] := List.getElem?_eq_getElem hi
  have hm : j % k < k := Nat.mod_lt _ hk
  have e : j / k * k + j % k = j := by rw [Nat.mul_comm]; exact Nat.div_add_mod j k
  have h2 := flat_get hf hx hm
  rw [e, hu] at h2
  obtain ⟨b', o', hbo, hr⟩ := h.elt _ _ hx
  simp at hbo
  obtain ⟨rfl, rfl⟩ := hbo
  have h3 := hrd _ _ _ hr (j % k) u h2.symm
  rw [Nat.add_assoc, e] at h3
  exact h3
theorem ownsRow_nil' (w : World) (base : Nat) (e : TypeId) (size : Nat) : w.ownsRow base e size (.slice none 0 0) 0 [] := World.ownsRow_nil _ _ _ _
end Go.Bw
