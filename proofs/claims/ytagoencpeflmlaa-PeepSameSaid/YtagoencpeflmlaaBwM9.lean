/- Walks of the machine that the compiler hands over, and plain laws on what they compute; each theorem tells its own conditions. -/
import Derived.Test.YtagoencpeflmlaaRows
import Derived.Test.YtagoencpeflmlaaBwM8
namespace Go.Proofs.Ytagoencpeflmlaa
open Go.Bw
set_option linter.unusedVariables false
set_option linter.unusedSimpArgs false

/-! ### What stays -/
def Rz.st {α : Type} (r : Rz α) : Pm := match r with | .ok _ m => m | .ov _ m => m
def Pm.kp (m : Pm) : Int × Int := (m.limit, m.steps)
theorem Rz.bind_kp {α β : Type} {r : Rz α} {f : α → Pm → Rz β} {v : Int × Int} (h1 : r.st.kp = v) (h2 : ∀ a m, m.kp = v → (f a m).st.kp = v) : (r.bind f).st.kp = v := by
  cases r with
  | ok a m => exact h2 a m h1
  | ov e m => exact h1
theorem ite_kp {α : Type} {c : Prop} [Decidable c] {a b : Rz α} {v : Int × Int} (ha : a.st.kp = v) (hb : b.st.kp = v) : (if c then a else b).st.kp = v := by
  split
  · exact ha
  · exact hb
theorem kp_top (m : Pm) : (topM m).st.kp = m.kp := by unfold topM; split <;> rfl
theorem kp_push (n : Int) (m : Pm) : (pushM n m).st.kp = m.kp := by unfold pushM; split <;> rfl
theorem kp_tick (m : Pm) : (tickM m).st.kp = m.kp := by unfold tickM; split <;> rfl
theorem kp_math (op : Int) (m : Pm) : (mathM op m).st.kp = m.kp := by
  unfold mathM
  split
  · rfl
  · refine Rz.bind_kp (kp_top m) fun b m1 h1 => Rz.bind_kp (by rw [kp_top, h1]) fun a m2 h2 => ?_
    split
    · rw [kp_push, h2]
    · split
      · exact h2
      · rw [kp_push, h2]
theorem kp_enter (a b : Int) (m : Pm) : (enterM a b m).st.kp = m.kp := by unfold enterM; split <;> rfl
theorem kp_call (to : Int) (m : Pm) : (callM to m).st.kp = m.kp := by
  unfold callM
  refine Rz.bind_kp (kp_tick m) fun _ m1 h1 => ?_
  split
  · exact h1
  · exact h1
theorem kp_ret (m : Pm) : (retM m).st.kp = m.kp := by
  unfold retM
  split
  · rfl
  · split <;> rfl
theorem kp_read (m : Pm) : (readM m).2.kp = m.kp := by unfold readM; split <;> rfl
theorem kp_step (i : Ins) (m : Pm) : (stepM i m).st.kp = m.kp := by
  have h0 : m.at1.kp = m.kp := rfl
  rw [← h0]
  unfold stepM
  generalize m.at1 = m
  unfold stepB
  repeat' apply ite_kp
  all_goals first
    | rfl
    | exact kp_push _ _
    | exact kp_math _ _
    | exact kp_call _ _
    | exact kp_enter _ _ _
    | exact kp_ret _
    | exact kp_tick _
    | (rw [kp_push, kp_read]; done)
    | exact kp_read _
    | (split <;> rfl)
    | (refine Rz.bind_kp (kp_top m) fun n m1 h1 => ?_
       repeat' apply ite_kp
       all_goals first
         | exact h1
         | (rw [kp_push, h1]; done)
         | (refine Rz.bind_kp (by rw [kp_top, h1]) fun k m2 h2 => ?_
            repeat' apply ite_kp
            all_goals exact h2))
/-! ### Runs -/
def Pm.tk (m : Pm) : Pm := { m with steps := IntKind.i64.wrap (m.steps + 1) }
def iterM (code : List Ins) (lim : Int) (m : Pm) : Rz Unit := if (m.steps == lim) = true then .ov 7 m else if outsideB m.at_ code.length = true then .ov 6 m.tk else stepM (code[m.at_.toNat]?.getD ⟨0, 0, 0⟩) m.tk
def runK (code : List Ins) (lim : Int) : Nat → Pm → Int × Pm
  | 0, m => (7, m)
  | k + 1, m => match iterM code lim m with
    | .ov e m' => (e, m')
    | .ok _ m' => runK code lim k m'
theorem iter_steps {code : List Ins} {lim : Int} {m m' : Pm} (hl : lim ≤ 134217728) (h0 : 0 ≤ m.steps) (h1 : m.steps ≤ lim) (h : iterM code lim m = .ok () m') : m'.steps = m.steps + 1 ∧ m.steps < lim := by
  unfold iterM at h
  split at h
  · cases h
  · rename_i hne
    have hlt : m.steps < lim := by simp at hne; omega
    split at h
    · cases h
    · have hk := kp_step (code[m.at_.toNat]?.getD ⟨0, 0, 0⟩) m.tk
      rw [h] at hk
      have e : m'.steps = m.tk.steps := congrArg Prod.snd hk
      refine ⟨?_, hlt⟩
      rw [e]
      show IntKind.i64.wrap (m.steps + 1) = _
      rw [wrap_in (by omega)]
structure Res where
  fin : Int
  out : List Int
  data : List Int
  ticks : Int
deriving DecidableEq
def startM (ticks : Int) (inp : List Int) (data : Int) : Pm := ⟨0, ticks, 0, [], [([], 0)], inp, [], List.replicate data.toNat 0, 0⟩
def machE (code : List Ins) (data : Int) (inp : List Int) (ticks steps : Int) : Int :=
  if checkImg code data = 0 then if 64 < inp.length then 2 else if (((decide (ticks < 0) || decide (2000 < ticks)) || decide (steps < 0)) || decide (134217728 < steps)) = true then 3 else 0 else checkImg code data
def machR (code : List Ins) (data : Int) (inp : List Int) (ticks steps : Int) : Res × Int :=
  if machE code data inp ticks steps = 0 then
    let r := runK code steps (steps.toNat + 1) (startM ticks inp data)
    (⟨r.1, r.2.out, r.2.data, r.2.ticks⟩, r.2.steps)
  else (⟨0, [], [], 0⟩, 0)




end Go.Proofs.Ytagoencpeflmlaa
