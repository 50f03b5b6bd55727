/- Own plain laws of the program's chapters, in plain lists of bytes and records with no program in sight; each theorem tells its own conditions. -/
import Derived.Test.YtcjloelhjnnhmaaDoorBw26
import Derived.Lib.AtoiTie
import Derived.Lib.AtoiAllCases
import Derived.Lib.ItoaNum
import Derived.Lib.Join
import Derived.Lib.Bytealg
namespace Go.Bw
open Go
set_option linter.unusedVariables false
set_option linter.unusedSimpArgs false

/-! ### Tokens -/
structure Tok where
  kind : Int
  n : Int
  text : List UInt8
deriving DecidableEq
def Tok.cells (t : Tok) : List Value := [.int .i64 t.kind, .int .i64 t.n, st t.text]
theorem Tok.cells_len (x : Tok) : x.cells.length = 3 := rfl
def rdTok (H : View) (b o : Nat) (x : Tok) : Prop := RdC H b o x.cells
theorem rdTok_mono {H H' : View} (h : VLe H H') (b o : Nat) (x : Tok) (r : rdTok H b o x) : rdTok H' b o x := RdC.mono h r
def letterB (u : Int) : Bool := decide (97 ≤ u) && decide (u ≤ 122)
def digitB (u : Int) : Bool := decide (48 ≤ u) && decide (u ≤ 57)
def charB (u : UInt8) : Bool := letterB u.toNat || digitB u.toNat
def nameB (s : List UInt8) : Bool := (decide (1 ≤ s.length) && decide (s.length ≤ 8)) && letterB ((s[0]?.getD 0).toNat) && s.all charB
def signL : List UInt8 := [123, 125, 40, 41, 91, 93, 44, 59, 61, 46, 43, 45, 42, 47, 37, 60, 33, 38, 124]
def signB (u : UInt8) : Bool := signL.contains u
def runC : List UInt8 → Nat
  | [] => 0
  | c :: r => if charB c = true then runC r + 1 else 0
def numN (s : List UInt8) : Option Nat := match Lib.decNat s with
  | some n => if n ≤ 1099511627775 ∧ Lib.decDigits n = s then some n else none
  | none => none
def wordT (s : List UInt8) : Option Tok := if nameB s = true then some ⟨1, 0, s⟩ else (numN s).map (fun n : Nat => (⟨2, (n : Int), []⟩ : Tok))
def lexF : Nat → List UInt8 → Option (List Tok)
  | _, [] => some []
  | 0, _ :: _ => none
  | f + 1, c :: r =>
    if 0 < runC (c :: r) then
      match wordT ((c :: r).take (runC (c :: r))) with
      | some t => (lexF f ((c :: r).drop (runC (c :: r)))).map (t :: ·)
      | none => none
    else if signB c = true then (lexF f r).map (⟨3, 0, [c]⟩ :: ·)
    else if c = 32 ∨ c = 10 then lexF f r
    else none
def lexO (s : List UInt8) : Option (List Tok) := lexF s.length s
def lexR (s : List UInt8) : List Tok × Int := if 4096 < s.length then ([], 2) else match lexO s with
  | some l => (l, 0)
  | none => ([], 1)
def kindT (t : Tok) : Bool := decide (1 ≤ t.kind) && decide (t.kind ≤ 3)
def tokOk (t : Tok) : Bool := if t.kind = 1 then t.n == 0 && nameB t.text else if t.kind = 2 then t.text == [] && (decide (0 ≤ t.n) && decide (t.n ≤ 1099511627775)) else t.n == 0 && (t.text.length == 1 && signB (t.text[0]?.getD 0))
def kindBad (t : Tok) : Bool := !kindT t
def tokBad (t : Tok) : Bool := !tokOk t
def checkT (l : List Tok) : Int := if l.any kindBad = true then 4 else if l.any tokBad = true then 1 else if 4096 < l.length then 2 else 0
def tokTxt (t : Tok) : List UInt8 := if t.kind = 2 then Lib.itoa t.n else t.text
def joinT (l : List Tok) : List UInt8 := Lib.join (l.map tokTxt) [32]
def showT (l : List Tok) : List UInt8 × Int := if checkT l = 0 then (joinT l, 0) else ([], checkT l)

/-! ### Runs -/
theorem runC_le : ∀ s : List UInt8, runC s ≤ s.length
  | [] => Nat.le_refl _
  | c :: r => by
    have := runC_le r
    unfold runC
    split <;> simp <;> omega
theorem runC_append (b : List UInt8) (c : UInt8) (hc : charB c = false) : ∀ a : List UInt8, runC (a ++ c :: b) = runC a
  | [] => by simp [runC, hc]
  | x :: a => by
    rw [List.cons_append]
    unfold runC
    rw [runC_append b c hc a]
theorem runC_spec : ∀ (s : List UInt8) (n : Nat), n ≤ s.length → (∀ j, j < n → charB (s[j]?.getD 0) = true) → (n = s.length ∨ charB (s[n]?.getD 0) = false) → runC s = n
  | [], n, h, _, _ => by simp at h; subst h; rfl
  | c :: r, 0, _, _, h => by
    have : charB c = false := by
      rcases h with h | h
      · simp at h
      · simpa using h
    simp [runC, this]
  | c :: r, n + 1, hn, ha, h => by
    have h0 : charB c = true := by simpa using ha 0 (by omega)
    rw [runC, if_pos h0, runC_spec r n (by simpa using hn) (fun j hj => by simpa using ha (j + 1) (by omega)) (by rcases h with h | h; left; simpa using h; right; simpa using h)]
theorem runC_all {s : List UInt8} (h : s.all charB = true) : runC s = s.length := by
  refine runC_spec s s.length (Nat.le_refl _) (fun j hj => ?_) (.inl rfl)
  rw [List.getElem?_eq_getElem hj]
  exact List.all_eq_true.1 h _ (List.getElem_mem hj)

/-! ### Fuel -/
theorem lexF_more : ∀ (f g : Nat) (s : List UInt8), s.length ≤ f → s.length ≤ g → lexF f s = lexF g s
  | _, _, [], _, _ => by simp [lexF]
  | 0, _, _ :: _, h, _ => by simp at h
  | _ + 1, 0, _ :: _, _, h => by simp at h
  | f + 1, g + 1, c :: r, hf, hg => by
    simp only [List.length_cons] at hf hg
    unfold lexF
    rw [lexF_more f g r (by omega) (by omega)]
    by_cases h0 : 0 < runC (c :: r)
    · rw [lexF_more f g ((c :: r).drop (runC (c :: r))) (by simp; omega) (by simp; omega)]
    · simp only [if_neg h0]
theorem lexO_nil : lexO [] = some [] := rfl
theorem lexO_word {s : List UInt8} (h : 0 < runC s) : lexO s = match wordT (s.take (runC s)) with
    | some t => (lexO (s.drop (runC s))).map (t :: ·)
    | none => none := by
  cases s with
  | nil => simp [runC] at h
  | cons c r =>
    show lexF (r.length + 1) (c :: r) = _
    rw [lexF, if_pos h]
    unfold lexO
    rw [lexF_more r.length ((c :: r).drop (runC (c :: r))).length _ (by simp; omega) (Nat.le_refl _)]
theorem lexO_sign {c : UInt8} {r : List UInt8} (h : runC (c :: r) = 0) (hs : signB c = true) : lexO (c :: r) = (lexO r).map (⟨3, 0, [c]⟩ :: ·) := by
  show lexF (r.length + 1) (c :: r) = _
  rw [lexF, if_neg (by omega), if_pos hs]
  rfl
theorem lexO_blank {c : UInt8} {r : List UInt8} (h : runC (c :: r) = 0) (hs : signB c = false) (hb : c = 32 ∨ c = 10) : lexO (c :: r) = lexO r := by
  show lexF (r.length + 1) (c :: r) = _
  rw [lexF, if_neg (by omega), if_neg (by simp [hs]), if_pos hb]
  rfl
theorem lexO_bad {c : UInt8} {r : List UInt8} (h : runC (c :: r) = 0) (hs : signB c = false) (hb : ¬ (c = 32 ∨ c = 10)) : lexO (c :: r) = none := by
  show lexF (r.length + 1) (c :: r) = _
  rw [lexF, if_neg (by omega), if_neg (by simp [hs]), if_neg hb]
theorem signB_no : ∀ u : UInt8, signB u = true → charB u = false := by
  have h : ∀ u ∈ signL, charB u = false := by decide
  intro u hu
  exact h u (by simpa [signB] using hu)

/-! ### Two texts -/
theorem lexO_join : ∀ (k : Nat) (a b : List UInt8), a.length ≤ k → lexO (a ++ 32 :: b) = (lexO a).bind fun l => (lexO b).map (l ++ ·)
  | _, [], b, _ => by
    have h32 : charB 32 = false := by decide
    rw [List.nil_append, lexO_blank (by simp [runC, h32]) (by decide) (.inl rfl)]
    simp only [lexO_nil, Option.bind_some, List.nil_append]
    cases lexO b <;> rfl
  | 0, _ :: _, _, h => by simp at h
  | k + 1, c :: r, b, hk => by
    have h32 : charB 32 = false := by decide
    have hrun := runC_append b 32 h32 (c :: r)
    have hle := runC_le (c :: r)
    by_cases h0 : 0 < runC (c :: r)
    · rw [lexO_word (s := (c :: r) ++ 32 :: b) (by omega), lexO_word h0, hrun, List.take_append_of_le_length hle, List.drop_append_of_le_length hle]
      cases wordT ((c :: r).take (runC (c :: r))) with
      | none => rfl
      | some t =>
        simp only
        rw [lexO_join k ((c :: r).drop (runC (c :: r))) b (by simp at hk ⊢; omega)]
        cases lexO ((c :: r).drop (runC (c :: r))) <;> simp
        cases lexO b <;> simp
    · have h0' : runC (c :: r) = 0 := by omega
      have h0'' : runC (c :: (r ++ 32 :: b)) = 0 := by rw [← List.cons_append, hrun]; exact h0'
      have ih := lexO_join k r b (by simpa using hk)
      rw [List.cons_append]
      cases hs : signB c with
      | true =>
        rw [lexO_sign h0'' hs, lexO_sign h0' hs, ih]
        cases lexO r <;> simp
        cases lexO b <;> simp
      | false =>
        by_cases hb : c = 32 ∨ c = 10
        · rw [lexO_blank h0'' hs hb, lexO_blank h0' hs hb, ih]
        · rw [lexO_bad h0'' hs hb, lexO_bad h0' hs hb]; rfl

/-! ### Numerals -/
theorem decFrom_snoc (d : Nat) (hd : d < 10) : ∀ (l : List UInt8) (acc n : Nat), Lib.decFrom acc l = some n → Lib.decFrom acc (l ++ [UInt8.ofNat (48 + d)]) = some (n * 10 + d)
  | [], acc, n, h => by
    simp only [Lib.decFrom, Option.some.injEq] at h
    subst h
    have e : (UInt8.ofNat (48 + d)).toNat = 48 + d := by simp [UInt8.toNat_ofNat']; omega
    have : Lib.digitVal (UInt8.ofNat (48 + d)) = some d := by
      unfold Lib.digitVal
      rw [e, if_pos (by omega)]
      simp
    simp only [List.nil_append, Lib.decFrom, this]
  | b :: r, acc, n, h => by
    simp only [Lib.decFrom, List.cons_append] at h ⊢
    cases hb : Lib.digitVal b with
    | none => simp [hb] at h
    | some e =>
      simp only [hb] at h ⊢
      exact decFrom_snoc d hd r _ n h
theorem decDigits_ne (n : Nat) : Lib.decDigits n ≠ [] := by
  rw [Lib.decDigits]
  split <;> simp
theorem decFrom_digits (n : Nat) : Lib.decFrom 0 (Lib.decDigits n) = some n := by
  induction n using Nat.strongRecOn with
  | _ n ih =>
    rw [Lib.decDigits]
    split
    · rename_i h
      have := decFrom_snoc n h [] 0 0 rfl
      simpa using this
    · rename_i h
      rw [decFrom_snoc (n % 10) (by omega) _ _ _ (ih (n / 10) (by omega))]
      congr 1
      omega
theorem decNat_digits (n : Nat) : Lib.decNat (Lib.decDigits n) = some n := by
  unfold Lib.decNat
  rw [if_neg (by simpa using decDigits_ne n), decFrom_digits]
theorem decDigits_all (n : Nat) : ∀ x ∈ Lib.decDigits n, 48 ≤ x.toNat ∧ x.toNat ≤ 57 := by
  induction n using Nat.strongRecOn with
  | _ n ih =>
    rw [Lib.decDigits]
    have e : ∀ d, d < 10 → (UInt8.ofNat (48 + d)).toNat = 48 + d := fun d hd => by simp [UInt8.toNat_ofNat']; omega
    split
    · rename_i h
      intro x hx
      simp only [List.mem_singleton] at hx
      subst hx
      rw [e n h]; omega
    · intro x hx
      rw [List.mem_append, List.mem_singleton] at hx
      rcases hx with hx | hx
      · exact ih (n / 10) (by omega) x hx
      · subst hx
        rw [e _ (by omega)]; omega
theorem decDigits_len : ∀ (k n : Nat), n < 10 ^ (k + 1) → (Lib.decDigits n).length ≤ k + 1
  | 0, n, h => by
    rw [Lib.decDigits, dif_pos (by simpa using h)]
    simp
  | k + 1, n, h => by
    rw [Lib.decDigits]
    split
    · simp
    · rw [Nat.pow_succ] at h
      have := decDigits_len k (n / 10) (by omega)
      simp; omega
theorem itoa_nat (n : Nat) : Lib.itoa (n : Int) = Lib.decDigits n := by
  unfold Lib.itoa
  rw [if_neg (by omega)]
  simp
theorem itoa_pos {n : Int} (h : 0 ≤ n) : Lib.itoa n = Lib.decDigits n.toNat := by
  unfold Lib.itoa
  rw [if_neg (by omega)]
theorem digits13 {n : Nat} (h : n ≤ 1099511627775) : (Lib.decDigits n).length ≤ 13 := decDigits_len 12 n (by omega)
theorem numN_some {s : List UInt8} {n : Nat} (h : numN s = some n) : n ≤ 1099511627775 ∧ Lib.decDigits n = s := by
  unfold numN at h
  split at h
  · split at h
    · injection h with h
      subst h; assumption
    · cases h
  · cases h
theorem numN_digits {n : Nat} (h : n ≤ 1099511627775) : numN (Lib.decDigits n) = some n := by
  unfold numN
  rw [decNat_digits]
  simp [h]
/-- What 'word' of the program hands back. -/
def wordP (s : List UInt8) : Tok × Bool := if nameB s = true then (⟨1, 0, s⟩, true) else match Lib.atoiAll s with
  | .ok v => (⟨2, v, []⟩, ((decide (0 ≤ v) && decide (v ≤ 1099511627775)) && (Lib.itoa v == s)))
  | .range => (⟨2, Lib.atoiSat s, []⟩, false)
  | _ => (⟨2, 0, []⟩, false)
theorem atoiAll_digits {n : Nat} (h : n ≤ 1099511627775) : Lib.atoiAll (Lib.decDigits n) = .ok (n : Int) := by
  have hl := digits13 h
  rw [Lib.atoiAll_short _ (by omega)]
  have hne := decDigits_ne n
  have hall := decDigits_all n
  have hd := decNat_digits n
  cases hs : Lib.decDigits n with
  | nil => exact absurd hs hne
  | cons b r =>
    rw [hs] at hall hd
    have hb := hall b (by simp)
    have h45 : (b == 45) = false := by
      rw [beq_eq_false_iff_ne]
      intro e; subst e; revert hb; decide
    have h43 : (b == 43) = false := by
      rw [beq_eq_false_iff_ne]
      intro e; subst e; revert hb; decide
    simp [Lib.atoi, h45, h43, hd, Lib.NumEnd.ofOption]
theorem word_same (s : List UInt8) : wordT s = if (wordP s).2 = true then some (wordP s).1 else none := by
  unfold wordT wordP
  by_cases hn : nameB s = true
  · simp [hn]
  · simp only [if_neg hn]
    cases h : numN s with
    | some n =>
      obtain ⟨h1, h2⟩ := numN_some h
      subst h2
      rw [atoiAll_digits h1]
      have : ((n : Int) ≤ 1099511627775) := by omega
      simp [itoa_nat, this]
    | none =>
      cases ha : Lib.atoiAll s with
      | ok v =>
        simp only
        by_cases hv : ((decide (0 ≤ v) && decide (v ≤ 1099511627775)) && (Lib.itoa v == s)) = true
        · simp only [Bool.and_eq_true, decide_eq_true_eq, beq_iff_eq] at hv
          obtain ⟨⟨h1, h2⟩, h3⟩ := hv
          have : numN s = some v.toNat := by
            rw [← h3, itoa_pos h1]
            exact numN_digits (by omega)
          rw [h] at this; cases this
        · rw [if_neg hv]; rfl
      | range => rfl
      | _ => rfl

/-! ### What is read is right -/
theorem wordT_ok {s : List UInt8} {t : Tok} (h : wordT s = some t) : kindT t = true ∧ tokOk t = true := by
  unfold wordT at h
  split at h
  · rename_i hn
    injection h with h
    subst h
    exact ⟨rfl, by simp [tokOk, hn]⟩
  · obtain ⟨n, hn, rfl⟩ := Option.map_eq_some_iff.1 h
    have := (numN_some hn).1
    exact ⟨rfl, by simp [tokOk]; omega⟩
theorem lexO_ok : ∀ (k : Nat) (s : List UInt8) (l : List Tok), s.length ≤ k → lexO s = some l → (∀ t ∈ l, kindT t = true ∧ tokOk t = true) ∧ l.length ≤ s.length
  | _, [], l, _, h => by
    rw [lexO_nil] at h
    injection h with h
    subst h; simp
  | 0, _ :: _, _, h, _ => by simp at h
  | k + 1, c :: r, l, hk, h => by
    simp only [List.length_cons] at hk
    by_cases h0 : 0 < runC (c :: r)
    · rw [lexO_word h0] at h
      cases hw : wordT ((c :: r).take (runC (c :: r))) with
      | none => simp [hw] at h
      | some t =>
        simp only [hw] at h
        obtain ⟨l', hl', rfl⟩ := Option.map_eq_some_iff.1 h
        obtain ⟨h1, h2⟩ := lexO_ok k ((c :: r).drop (runC (c :: r))) l' (by simp; omega) hl'
        refine ⟨fun x hx => ?_, ?_⟩
        · rcases List.mem_cons.1 hx with rfl | hx
          · exact wordT_ok hw
          · exact h1 x hx
        · simp at h2 ⊢; omega
    · have h0' : runC (c :: r) = 0 := by omega
      cases hs : signB c with
      | true =>
        rw [lexO_sign h0' hs] at h
        obtain ⟨l', hl', rfl⟩ := Option.map_eq_some_iff.1 h
        obtain ⟨h1, h2⟩ := lexO_ok k r l' (by omega) hl'
        refine ⟨fun x hx => ?_, by simpa using h2⟩
        rcases List.mem_cons.1 hx with rfl | hx
        · exact ⟨rfl, by simp [tokOk, hs]⟩
        · exact h1 x hx
      | false =>
        by_cases hb : c = 32 ∨ c = 10
        · rw [lexO_blank h0' hs hb] at h
          obtain ⟨h1, h2⟩ := lexO_ok k r l (by omega) h
          exact ⟨h1, by simp; omega⟩
        · rw [lexO_bad h0' hs hb] at h; cases h
theorem any_none {α : Type} {p : α → Bool} {l : List α} (h : ∀ t ∈ l, p t = false) : l.any p = false := by
  rw [List.any_eq_false]
  intro x hx
  simp [h x hx]
theorem checkT_of {l : List Tok} (h : ∀ t ∈ l, kindT t = true ∧ tokOk t = true) (hl : l.length ≤ 4096) : checkT l = 0 := by
  unfold checkT
  rw [any_none (p := kindBad) fun t ht => by simp [kindBad, (h t ht).1], any_none (p := tokBad) fun t ht => by simp [tokBad, (h t ht).2]]
  simp; omega
theorem checkT_zero {l : List Tok} (h : checkT l = 0) : (∀ t ∈ l, kindT t = true ∧ tokOk t = true) ∧ l.length ≤ 4096 := by
  unfold checkT at h
  split at h
  · cases h
  · rename_i h1
    split at h
    · cases h
    · rename_i h2
      split at h
      · cases h
      · rename_i h3
        simp only [List.any_eq_true, not_exists, not_and] at h1 h2
        refine ⟨fun t ht => ⟨?_, ?_⟩, by omega⟩
        · have := h1 t ht; simpa [kindBad] using this
        · have := h2 t ht; simpa [tokBad] using this
theorem lex_checks {s : List UInt8} (h : (lexR s).2 = 0) : checkT (lexR s).1 = 0 := by
  unfold lexR at h ⊢
  split
  · simp_all
  · rename_i h1
    cases ho : lexO s with
    | none => simp [h1, ho] at h
    | some l =>
      obtain ⟨h2, h3⟩ := lexO_ok _ s l (Nat.le_refl _) ho
      exact checkT_of h2 (show l.length ≤ 4096 by omega)

/-! ### Lex of Show -/
theorem charB_digit {x : UInt8} (h : 48 ≤ x.toNat ∧ x.toNat ≤ 57) : charB x = true := by
  unfold charB digitB
  have h1 : ((48 : Int) ≤ (x.toNat : Int)) := by omega
  have h2 : ((x.toNat : Int) ≤ 57) := by omega
  simp [h1, h2]
theorem lexO_tok {t : Tok} (hk : kindT t = true) (ht : tokOk t = true) : lexO (tokTxt t) = some [t] := by
  obtain ⟨k, n, s⟩ := t
  have hk' : k = 1 ∨ k = 2 ∨ k = 3 := by simp [kindT] at hk; omega
  rcases hk' with rfl | rfl | rfl
  · simp only [tokOk, if_pos, Bool.and_eq_true, beq_iff_eq] at ht
    obtain ⟨rfl, hn⟩ := ht
    have hn' := hn
    simp only [nameB, Bool.and_eq_true, decide_eq_true_eq] at hn'
    obtain ⟨⟨⟨h1, h8⟩, _⟩, hall⟩ := hn'
    have hr := runC_all hall
    show lexO s = _
    rw [lexO_word (by omega), hr, List.take_length, List.drop_length]
    simp [wordT, hn, lexO_nil]
  · simp only [tokOk, Bool.and_eq_true, beq_iff_eq, decide_eq_true_eq] at ht
    obtain ⟨rfl, h0, h1⟩ := (by simpa using ht : s = [] ∧ 0 ≤ n ∧ n ≤ 1099511627775)
    show lexO (Lib.itoa n) = _
    rw [itoa_pos h0]
    have hd := decDigits_all n.toNat
    have hr : runC (Lib.decDigits n.toNat) = (Lib.decDigits n.toNat).length := runC_all (List.all_eq_true.2 fun x hx => charB_digit (hd x hx))
    have hne := decDigits_ne n.toNat
    have hp : 0 < (Lib.decDigits n.toNat).length := List.length_pos_iff.2 hne
    rw [lexO_word (by omega), hr, List.take_length, List.drop_length]
    have hnn : nameB (Lib.decDigits n.toNat) = false := by
      cases hs : Lib.decDigits n.toNat with
      | nil => exact absurd hs hne
      | cons b r =>
        have hb := hd b (by rw [hs]; simp)
        have : letterB (b.toNat : Int) = false := by simp [letterB]; omega
        simp [nameB, this]
    have hnat : ((n.toNat : Nat) : Int) = n := by omega
    simp [wordT, hnn, numN_digits (show n.toNat ≤ 1099511627775 by omega), lexO_nil, hnat]
  · obtain ⟨rfl, hl, hs⟩ := (by simpa [tokOk] using ht : n = 0 ∧ s.length = 1 ∧ signB (s[0]?.getD 0) = true)
    match s, hl with
    | [c], _ =>
      have hs : signB c = true := by simpa using hs
      show lexO [c] = _
      rw [lexO_sign (by simp [runC, signB_no c hs]) hs]
      rfl
theorem join_cons2 (x y : List UInt8) (r : List (List UInt8)) (s : List UInt8) : Lib.join (x :: y :: r) s = x ++ s ++ Lib.join (y :: r) s := by
  simp [Lib.join, List.intercalate, List.intersperse]
theorem lexO_joinT : ∀ l : List Tok, (∀ t ∈ l, kindT t = true ∧ tokOk t = true) → lexO (joinT l) = some l
  | [], _ => rfl
  | [t], h => by
    have e : joinT [t] = tokTxt t := by simp [joinT, Lib.join, List.intercalate]
    rw [e]
    exact lexO_tok (h t (by simp)).1 (h t (by simp)).2
  | t :: u :: r, h => by
    have e : joinT (t :: u :: r) = tokTxt t ++ 32 :: joinT (u :: r) := by
      unfold joinT
      simp only [List.map_cons, join_cons2]
      simp
    rw [e, lexO_join _ _ _ (Nat.le_refl _), lexO_tok (h t (by simp)).1 (h t (by simp)).2, lexO_joinT (u :: r) (fun x hx => h x (List.mem_cons_of_mem _ hx))]
    rfl
theorem lex_show {l : List Tok} (h : (showT l).2 = 0) (hl : (showT l).1.length ≤ 4096) : lexR (showT l).1 = (l, 0) := by
  unfold showT at h hl ⊢
  split
  · rename_i h0
    rw [if_pos h0] at hl
    unfold lexR
    rw [if_neg (by simpa using hl)]
    simp only [lexO_joinT l (checkT_zero h0).1]
  · rename_i h0
    rw [if_neg h0] at h
    exact absurd h h0
theorem tokTxt_len {t : Tok} (hk : kindT t = true) (ht : tokOk t = true) : (tokTxt t).length ≤ 13 := by
  unfold tokTxt
  obtain ⟨k, n, s⟩ := t
  have hk' : k = 1 ∨ k = 2 ∨ k = 3 := by simp [kindT] at hk; omega
  rcases hk' with rfl | rfl | rfl
  · simp [tokOk, nameB] at ht ⊢; omega
  · have : s = [] ∧ 0 ≤ n ∧ n ≤ 1099511627775 := by simpa [tokOk] using ht
    simp only [if_pos]
    rw [itoa_pos this.2.1]
    exact digits13 (by omega)
  · simp [tokOk] at ht ⊢; omega
theorem joinT_snoc (t : Tok) : ∀ l : List Tok, l ≠ [] → joinT (l ++ [t]) = joinT l ++ [32] ++ tokTxt t
  | [], h => absurd rfl h
  | [u], _ => by simp [joinT, Lib.join, List.intercalate, List.intersperse]
  | u :: v :: r, _ => by
    have ih := joinT_snoc t (v :: r) (by simp)
    unfold joinT at ih ⊢
    simp only [List.cons_append, List.map_cons, List.map_append, List.map_nil, join_cons2] at ih ⊢
    rw [ih]
    simp
theorem joinT_len : ∀ l : List Tok, (∀ t ∈ l, kindT t = true ∧ tokOk t = true) → (joinT l).length ≤ l.length * 14
  | [], _ => by simp [joinT, Lib.join, List.intercalate]
  | [t], h => by
    have := tokTxt_len (h t (by simp)).1 (h t (by simp)).2
    simp [joinT, Lib.join, List.intercalate]; omega
  | t :: u :: r, h => by
    have h1 := tokTxt_len (h t (by simp)).1 (h t (by simp)).2
    have ih := joinT_len (u :: r) fun x hx => h x (List.mem_cons_of_mem _ hx)
    unfold joinT at ih ⊢
    simp only [List.map_cons, join_cons2, List.length_append, List.length_cons, List.length_nil] at ih ⊢
    omega
theorem lex_join {a b : List UInt8} (h : a.length + 1 + b.length ≤ 4096) : lexR (a ++ 32 :: b) = if (lexR a).2 = 0 ∧ (lexR b).2 = 0 then ((lexR a).1 ++ (lexR b).1, 0) else ([], 1) := by
  unfold lexR
  have h1 : ¬ 4096 < (a ++ 32 :: b).length := by simp; omega
  have h2 : ¬ 4096 < a.length := by omega
  have h3 : ¬ 4096 < b.length := by omega
  simp only [if_neg h1, if_neg h2, if_neg h3]
  rw [lexO_join _ a b (Nat.le_refl _)]
  cases lexO a <;> cases lexO b <;> simp
end Go.Bw
