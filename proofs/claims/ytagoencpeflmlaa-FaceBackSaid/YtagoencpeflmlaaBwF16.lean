/- Walks of the functions of this claim, and plain laws on what they compute; each theorem tells its own conditions. -/
import Derived.Test.YtagoencpeflmlaaRows
import Derived.Test.YtagoencpeflmlaaBwF15
namespace Go.Proofs.Ytagoencpeflmlaa
open Go.Bw
set_option linter.unusedVariables false
set_option linter.unusedSimpArgs false

theorem byteOf_nat (x : UInt8) : byteOf ((x.toNat : Nat) : Int) = x := by
  unfold byteOf
  have := x.toNat_lt
  rw [show (((x.toNat : Nat) : Int) % 256).toNat = x.toNat by omega]
  simp
def natOf (a : Int) (l : List UInt8) : Int := l.foldl (fun n b => n * 256 + (b.toNat : Nat)) a
theorem wrap_in2 (a : Int) (b : Int) : IntKind.i64.wrap (IntKind.i64.wrap a * 256 + b) = IntKind.i64.wrap (a * 256 + b) := by
  apply wrap_mod
  rw [IntKind.wrap_i64]; omega
theorem numOf_fold : ∀ (l : List UInt8) (a : Int), l.foldl (fun n b => IntKind.i64.wrap (n * 256 + (b.toNat : Nat))) (IntKind.i64.wrap a) = IntKind.i64.wrap (natOf a l)
  | [], a => rfl
  | x :: r, a => by
    simp only [List.foldl_cons, natOf]
    rw [wrap_in2, numOf_fold r]
    rfl
theorem numOf_wrap (l : List UInt8) : numOf l = IntKind.i64.wrap (natOf 0 l) := by
  have := numOf_fold l 0
  rw [show IntKind.i64.wrap 0 = 0 from rfl] at this
  exact this
theorem byteOf_eq {n : Int} {x : UInt8} (h : n % 256 = (x.toNat : Int)) : byteOf n = x := by
  rw [← byteOf_nat x]
  unfold byteOf
  rw [h]
  have := x.toNat_lt
  congr 1
  omega
theorem byte_at {k : Int} (hk : 0 < k) {A b L : Int} (hb : 0 ≤ b ∧ b < 256) (hL : 0 ≤ L ∧ L < k) {N : Int} (h : N = k * (256 * A + b) + L) : N / k % 256 = b := by
  subst h
  rw [Int.add_comm, Int.add_mul_ediv_left _ _ (by omega), Int.ediv_eq_zero_of_lt hL.1 hL.2]
  omega
theorem num8_numOf {l : List UInt8} (h : l.length = 8) : num8 (numOf l) = l := by
  match l, h with
  | [a, b, c, d, ee, f, g, i], _ =>
    have e : natOf 0 [a, b, c, d, ee, f, g, i] = (a.toNat : Int) * 72057594037927936 + (b.toNat : Int) * 281474976710656 + (c.toNat : Int) * 1099511627776 + (d.toNat : Int) * 4294967296 + (ee.toNat : Int) * 16777216 + (f.toNat : Int) * 65536 + (g.toNat : Int) * 256 + (i.toNat : Int) * 1 := by
      simp only [natOf, List.foldl_cons, List.foldl_nil]; omega
    rw [numOf_wrap]
    obtain ⟨q, hq⟩ : ∃ q : Int, IntKind.i64.wrap (natOf 0 [a, b, c, d, ee, f, g, i]) = natOf 0 [a, b, c, d, ee, f, g, i] - 18446744073709551616 * q := by
      rw [IntKind.wrap_i64]
      generalize natOf 0 [a, b, c, d, ee, f, g, i] = N
      exact ⟨(N + 9223372036854775808) / 18446744073709551616, by omega⟩
    rw [hq, e]
    simp only [num8, Int.fdiv_eq_ediv_of_nonneg _ (show (0:Int) ≤ 2 ^ 56 by decide), Int.fdiv_eq_ediv_of_nonneg _ (show (0:Int) ≤ 2 ^ 48 by decide), Int.fdiv_eq_ediv_of_nonneg _ (show (0:Int) ≤ 2 ^ 40 by decide), Int.fdiv_eq_ediv_of_nonneg _ (show (0:Int) ≤ 2 ^ 32 by decide), Int.fdiv_eq_ediv_of_nonneg _ (show (0:Int) ≤ 2 ^ 24 by decide), Int.fdiv_eq_ediv_of_nonneg _ (show (0:Int) ≤ 2 ^ 16 by decide), Int.fdiv_eq_ediv_of_nonneg _ (show (0:Int) ≤ 2 ^ 8 by decide)]
    have h_a : (0 : Int) ≤ a.toNat ∧ (a.toNat : Int) < 256 := by have := a.toNat_lt; omega
    have h_b : (0 : Int) ≤ b.toNat ∧ (b.toNat : Int) < 256 := by have := b.toNat_lt; omega
    have h_c : (0 : Int) ≤ c.toNat ∧ (c.toNat : Int) < 256 := by have := c.toNat_lt; omega
    have h_d : (0 : Int) ≤ d.toNat ∧ (d.toNat : Int) < 256 := by have := d.toNat_lt; omega
    have h_ee : (0 : Int) ≤ ee.toNat ∧ (ee.toNat : Int) < 256 := by have := ee.toNat_lt; omega
    have h_f : (0 : Int) ≤ f.toNat ∧ (f.toNat : Int) < 256 := by have := f.toNat_lt; omega
    have h_g : (0 : Int) ≤ g.toNat ∧ (g.toNat : Int) < 256 := by have := g.toNat_lt; omega
    have h_i : (0 : Int) ≤ i.toNat ∧ (i.toNat : Int) < 256 := by have := i.toNat_lt; omega
    have g_a := byte_at (k := 2 ^ 56) (by decide) (A := -q) (b := a.toNat) (L := b.toNat * 281474976710656 + c.toNat * 1099511627776 + d.toNat * 4294967296 + ee.toNat * 16777216 + f.toNat * 65536 + g.toNat * 256 + i.toNat * 1) h_a (by clear e hq; omega) (N := (a.toNat : Int) * 72057594037927936 + (b.toNat : Int) * 281474976710656 + (c.toNat : Int) * 1099511627776 + (d.toNat : Int) * 4294967296 + (ee.toNat : Int) * 16777216 + (f.toNat : Int) * 65536 + (g.toNat : Int) * 256 + (i.toNat : Int) * 1 - 18446744073709551616 * q) (by clear e hq; omega)
    have g_b := byte_at (k := 2 ^ 48) (by decide) (A := -256 * q + a.toNat * 1) (b := b.toNat) (L := c.toNat * 1099511627776 + d.toNat * 4294967296 + ee.toNat * 16777216 + f.toNat * 65536 + g.toNat * 256 + i.toNat * 1) h_b (by clear e hq; omega) (N := (a.toNat : Int) * 72057594037927936 + (b.toNat : Int) * 281474976710656 + (c.toNat : Int) * 1099511627776 + (d.toNat : Int) * 4294967296 + (ee.toNat : Int) * 16777216 + (f.toNat : Int) * 65536 + (g.toNat : Int) * 256 + (i.toNat : Int) * 1 - 18446744073709551616 * q) (by clear e hq; omega)
    have g_c := byte_at (k := 2 ^ 40) (by decide) (A := -65536 * q + a.toNat * 256 + b.toNat * 1) (b := c.toNat) (L := d.toNat * 4294967296 + ee.toNat * 16777216 + f.toNat * 65536 + g.toNat * 256 + i.toNat * 1) h_c (by clear e hq; omega) (N := (a.toNat : Int) * 72057594037927936 + (b.toNat : Int) * 281474976710656 + (c.toNat : Int) * 1099511627776 + (d.toNat : Int) * 4294967296 + (ee.toNat : Int) * 16777216 + (f.toNat : Int) * 65536 + (g.toNat : Int) * 256 + (i.toNat : Int) * 1 - 18446744073709551616 * q) (by clear e hq; omega)
    have g_d := byte_at (k := 2 ^ 32) (by decide) (A := -16777216 * q + a.toNat * 65536 + b.toNat * 256 + c.toNat * 1) (b := d.toNat) (L := ee.toNat * 16777216 + f.toNat * 65536 + g.toNat * 256 + i.toNat * 1) h_d (by clear e hq; omega) (N := (a.toNat : Int) * 72057594037927936 + (b.toNat : Int) * 281474976710656 + (c.toNat : Int) * 1099511627776 + (d.toNat : Int) * 4294967296 + (ee.toNat : Int) * 16777216 + (f.toNat : Int) * 65536 + (g.toNat : Int) * 256 + (i.toNat : Int) * 1 - 18446744073709551616 * q) (by clear e hq; omega)
    have g_ee := byte_at (k := 2 ^ 24) (by decide) (A := -4294967296 * q + a.toNat * 16777216 + b.toNat * 65536 + c.toNat * 256 + d.toNat * 1) (b := ee.toNat) (L := f.toNat * 65536 + g.toNat * 256 + i.toNat * 1) h_ee (by clear e hq; omega) (N := (a.toNat : Int) * 72057594037927936 + (b.toNat : Int) * 281474976710656 + (c.toNat : Int) * 1099511627776 + (d.toNat : Int) * 4294967296 + (ee.toNat : Int) * 16777216 + (f.toNat : Int) * 65536 + (g.toNat : Int) * 256 + (i.toNat : Int) * 1 - 18446744073709551616 * q) (by clear e hq; omega)
    have g_f := byte_at (k := 2 ^ 16) (by decide) (A := -1099511627776 * q + a.toNat * 4294967296 + b.toNat * 16777216 + c.toNat * 65536 + d.toNat * 256 + ee.toNat * 1) (b := f.toNat) (L := g.toNat * 256 + i.toNat * 1) h_f (by clear e hq; omega) (N := (a.toNat : Int) * 72057594037927936 + (b.toNat : Int) * 281474976710656 + (c.toNat : Int) * 1099511627776 + (d.toNat : Int) * 4294967296 + (ee.toNat : Int) * 16777216 + (f.toNat : Int) * 65536 + (g.toNat : Int) * 256 + (i.toNat : Int) * 1 - 18446744073709551616 * q) (by clear e hq; omega)
    have g_g := byte_at (k := 2 ^ 8) (by decide) (A := -281474976710656 * q + a.toNat * 1099511627776 + b.toNat * 4294967296 + c.toNat * 16777216 + d.toNat * 65536 + ee.toNat * 256 + f.toNat * 1) (b := g.toNat) (L := i.toNat * 1) h_g (by clear e hq; omega) (N := (a.toNat : Int) * 72057594037927936 + (b.toNat : Int) * 281474976710656 + (c.toNat : Int) * 1099511627776 + (d.toNat : Int) * 4294967296 + (ee.toNat : Int) * 16777216 + (f.toNat : Int) * 65536 + (g.toNat : Int) * 256 + (i.toNat : Int) * 1 - 18446744073709551616 * q) (by clear e hq; omega)
    rw [byteOf_eq (x := a) g_a, byteOf_eq (x := b) g_b, byteOf_eq (x := c) g_c, byteOf_eq (x := d) g_d, byteOf_eq (x := ee) g_ee, byteOf_eq (x := f) g_f, byteOf_eq (x := g) g_g, byteOf_eq (x := i) (by clear e hq; omega)]
theorem toNat_byteOf (n : Int) : ((byteOf n).toNat : Int) = n % 256 := by
  unfold byteOf
  simp
  omega
theorem numOf_num8 {n : Int} (h : -9223372036854775808 ≤ n ∧ n ≤ 9223372036854775807) : numOf (num8 n) = n := by
  rw [numOf_wrap]
  have e : natOf 0 (num8 n) % 18446744073709551616 = n % 18446744073709551616 := by
    simp only [natOf, num8, List.foldl_cons, List.foldl_nil, toNat_byteOf, Int.fdiv_eq_ediv_of_nonneg _ (show (0:Int) ≤ 2 ^ 56 by decide), Int.fdiv_eq_ediv_of_nonneg _ (show (0:Int) ≤ 2 ^ 48 by decide), Int.fdiv_eq_ediv_of_nonneg _ (show (0:Int) ≤ 2 ^ 40 by decide), Int.fdiv_eq_ediv_of_nonneg _ (show (0:Int) ≤ 2 ^ 32 by decide), Int.fdiv_eq_ediv_of_nonneg _ (show (0:Int) ≤ 2 ^ 24 by decide), Int.fdiv_eq_ediv_of_nonneg _ (show (0:Int) ≤ 2 ^ 16 by decide), Int.fdiv_eq_ediv_of_nonneg _ (show (0:Int) ≤ 2 ^ 8 by decide)]
    omega
  rw [wrap_mod _ _ e, IntKind.wrap_i64]; omega

/-! ### What is parsed, printed -/
theorem glByte_back {s : List UInt8} {r : Int × List UInt8} (h : glByte s = some r) : s = byteOf r.1 :: r.2 := by
  cases s with
  | nil => cases h
  | cons x q => simp only [glByte] at h; injection h with h; subst h; simp [byteOf_nat]
theorem glText_back {s : List UInt8} {r : List UInt8 × List UInt8} (h : glText s = some r) : s = textB r.1 ++ r.2 := by
  cases s with
  | nil => cases h
  | cons x q =>
    simp only [glText] at h
    split at h
    · cases h
    · injection h with h; subst h
      have : (q.take x.toNat).length = x.toNat := by simp; omega
      simp [textB, byteOf_nat]
      rw [show min x.toNat q.length = x.toNat by omega, byteOf_nat]
theorem glNum_back {s : List UInt8} {r : Int × List UInt8} (h : glNum s = some r) : s = num8 r.1 ++ r.2 := by
  unfold glNum at h
  split at h
  · cases h
  · injection h with h; subst h
    simp only
    rw [num8_numOf (by simp; omega), List.take_append_drop]
theorem glItem_back {s : List UInt8} {r : Item × List UInt8} (h : glItem s = some r) : s = itemB r.1 ++ r.2 := by
  unfold glItem at h
  cases h1 : glByte s with
  | none => simp [h1] at h
  | some a =>
    cases h2 : glText a.2 with
    | none => simp [h1, h2] at h
    | some b =>
      cases h3 : glNum b.2 with
      | none => simp [h1, h2, h3] at h
      | some c =>
        cases h4 : glNum c.2 with
        | none => simp [h1, h2, h3, h4] at h
        | some d =>
          simp [h1, h2, h3, h4] at h
          subst h
          rw [glByte_back h1, glText_back h2, glNum_back h3, glNum_back h4]
          simp [itemB]
theorem glItems_back : ∀ (k : Nat) {s : List UInt8} {r : List Item × List UInt8}, glItems k s = some r → s = r.1.flatMap itemB ++ r.2 ∧ r.1.length = k
  | 0, s, r, h => by simp [glItems] at h; subst h; simp
  | k + 1, s, r, h => by
    simp only [glItems] at h
    cases h1 : glItem s with
    | none => simp [h1] at h
    | some a =>
      cases h2 : glItems k a.2 with
      | none => simp [h1, h2] at h
      | some b =>
        simp [h1, h2] at h
        subst h
        obtain ⟨e1, e2⟩ := glItems_back k h2
        rw [glItem_back h1, e1]
        simp [e2]
theorem glFace_back {s : List UInt8} {f : List UInt8 × List Item} {r : List UInt8} (h : glFace s = some (f, r)) : s = faceB f.1 f.2 ++ r := by
  unfold glFace at h
  cases h1 : glText s with
  | none => simp [h1] at h
  | some a =>
    cases h2 : glByte a.2 with
    | none => simp [h1, h2] at h
    | some b =>
      cases h3 : glItems b.1.toNat b.2 with
      | none => simp [h1, h2, h3] at h
      | some c =>
        simp [h1, h2, h3] at h
        obtain ⟨h, hr⟩ := h
        subst h; subst hr
        obtain ⟨e1, e2⟩ := glItems_back _ h3
        have hb := glByte_nat h2
        rw [glText_back h1, glByte_back h2, e1]
        simp only [faceB, e2]
        rw [show ((b.1.toNat : Nat) : Int) = b.1 by omega]
        simp
/-! ### What is printed, parsed -/
theorem glByte_fwd {k : Int} (h0 : 0 ≤ k) (h1 : k < 256) (r : List UInt8) : glByte (byteOf k :: r) = some (k, r) := by
  simp only [glByte, toNat_byteOf]
  rw [show k % 256 = k by omega]
theorem glText_fwd {t : List UInt8} (h : t.length < 256) (r : List UInt8) : glText (textB t ++ r) = some (t, r) := by
  have e : ((byteOf (t.length : Int)).toNat) = t.length := by have := toNat_byteOf (t.length : Int); omega
  simp [glText, textB, e]
theorem glNum_fwd {n : Int} (h : -9223372036854775808 ≤ n ∧ n ≤ 9223372036854775807) (r : List UInt8) : glNum (num8 n ++ r) = some (n, r) := by
  have e : (num8 n ++ r).take 8 = num8 n := by rw [List.take_append_of_le_length (by simp [num8_len])]; exact List.take_of_length_le (by simp [num8_len])
  have e2 : (num8 n ++ r).drop 8 = r := by rw [List.drop_append, num8_len, List.drop_of_length_le (by simp [num8_len])]; simp
  unfold glNum
  rw [if_neg (by simp [num8_len]), e, e2, numOf_num8 h]
theorem itemOk_spec {x : Item} (h : itemOk x = true) : x.name.length ≤ 8 ∧ (0 ≤ x.kind ∧ x.kind < 256) ∧ (-9223372036854775808 ≤ x.n ∧ x.n ≤ 9223372036854775807) ∧ (-9223372036854775808 ≤ x.pl ∧ x.pl ≤ 9223372036854775807) := by
  unfold itemOk nameB within at h
  simp at h
  omega
theorem glItem_fwd {x : Item} (h : itemOk x = true) (r : List UInt8) : glItem (itemB x ++ r) = some (x, r) := by
  obtain ⟨h1, h2, h3, h4⟩ := itemOk_spec h
  simp [glItem, itemB, glByte_fwd h2.1 h2.2, glText_fwd (t := x.name) (by omega), glNum_fwd h3, glNum_fwd h4]
theorem glItems_fwd : ∀ (l : List Item) (r : List UInt8), (∀ x ∈ l, itemOk x = true) → glItems l.length (l.flatMap itemB ++ r) = some (l, r)
  | [], r, _ => by simp [glItems]
  | x :: l, r, h => by
    have h1 := glItem_fwd (h x (by simp)) (l.flatMap itemB ++ r)
    have h2 := glItems_fwd l r fun y hy => h y (by simp [hy])
    simp only [List.length_cons, glItems, List.flatMap_cons, List.append_assoc, h1, Option.bind_some, h2, Option.map_some]
theorem glFace_fwd {name : List UInt8} {items : List Item} (h : faceE name items = 0) : glFace (faceB name items) = some ((name, items), []) := by
  obtain ⟨h16, hn, _⟩ := faceE_ok h
  have hall : ∀ x ∈ items, itemOk x = true := by
    unfold faceE at h
    rw [if_neg (by omega)] at h
    split at h
    · rename_i hb; simp only [Bool.and_eq_true] at hb; exact fun x hx => List.all_eq_true.1 hb.1 x hx
    · cases h
  have h1 := glText_fwd (t := name) (by omega) ([byteOf items.length] ++ items.flatMap itemB)
  simp only [List.singleton_append] at h1
  have h2 := glByte_fwd (k := (items.length : Int)) (by omega) (by omega) (items.flatMap itemB)
  have h3 := glItems_fwd items [] hall
  simp only [List.append_nil] at h3
  simp only [glFace, faceB, List.append_assoc, h1, Option.bind_some, List.singleton_append, h2, Int.toNat_natCast, h3, Option.map_some]
/-! ### The other reader -/
theorem noByte_of (s : List UInt8) (b : Bool) : match glByte s with | some r => noByte (s, b) = (r.1, (r.2, b)) | none => (noByte (s, b)).2.2 = true := by
  cases s with
  | nil => rfl
  | cons x q => rfl
theorem noByte_bad (p : List UInt8 × Bool) (h : p.2 = true) : (noByte p).2.2 = true := by
  unfold noByte; split <;> simp [h]
theorem noText_of (s : List UInt8) (b : Bool) : match glText s with | some r => noText (s, b) = (r.1, (r.2, b)) | none => (noText (s, b)).2.2 = true := by
  cases s with
  | nil => rfl
  | cons x q =>
    simp only [glText, noText, noByte]
    by_cases h : q.length < x.toNat
    · simp [h]
    · simp [h]
theorem noText_bad (p : List UInt8 × Bool) (h : p.2 = true) : (noText p).2.2 = true := by
  unfold noText
  split
  · rfl
  · exact noByte_bad p h
theorem noNumK_bad : ∀ (k : Nat) (n : Int) (p : List UInt8 × Bool), p.2 = true → (noNumK k n p).2.2 = true
  | 0, _, _, h => h
  | k + 1, _, p, h => noNumK_bad k _ _ (noByte_bad p h)
theorem noNumK_of : ∀ (k : Nat) (n : Int) (s : List UInt8) (b : Bool), (s.length < k → (noNumK k n (s, b)).2.2 = true) ∧ (k ≤ s.length → noNumK k n (s, b) = ((s.take k).foldl (fun n b => IntKind.i64.wrap (n * 256 + (b.toNat : Nat))) n, (s.drop k, b)))
  | 0, n, s, b => ⟨fun h => by omega, fun _ => by simp [noNumK]⟩
  | k + 1, n, [], b => ⟨fun _ => by simp only [noNumK]; exact noNumK_bad k _ _ rfl, fun h => by simp at h⟩
  | k + 1, n, x :: q, b => by
    have ih := noNumK_of k (IntKind.i64.wrap (n * 256 + (x.toNat : Nat))) q b
    exact ⟨fun h => ih.1 (by simp at h; omega), fun h => by have := ih.2 (by simp at h; omega); simpa [noNumK, noByte] using this⟩
theorem noNum_of (s : List UInt8) (b : Bool) : match glNum s with | some r => noNum (s, b) = (r.1, (r.2, b)) | none => (noNum (s, b)).2.2 = true := by
  unfold glNum noNum
  have h := noNumK_of 8 0 s b
  split
  · rename_i r hr
    split at hr
    · cases hr
    · injection hr with hr; subst hr
      exact h.2 (by omega)
  · rename_i hr
    split at hr
    · rename_i h8; exact h.1 h8
    · cases hr
theorem noNum_bad (p : List UInt8 × Bool) (h : p.2 = true) : (noNum p).2.2 = true := noNumK_bad 8 0 p h
theorem noItem_bad (p : List UInt8 × Bool) (h : p.2 = true) : (noItem p).2.2 = true := noNum_bad _ (noNum_bad _ (noText_bad _ (noByte_bad _ h)))
theorem noItem_of (s : List UInt8) (b : Bool) : match glItem s with | some r => noItem (s, b) = (r.1, (r.2, b)) | none => (noItem (s, b)).2.2 = true := by
  have h1 := noByte_of s b
  unfold glItem
  cases g1 : glByte s with
  | none =>
    rw [g1] at h1
    simp only [Option.bind_eq_bind, Option.bind_none]
    exact noNum_bad _ (noNum_bad _ (noText_bad _ h1))
  | some a =>
    rw [g1] at h1
    simp only [] at h1
    have h2 := noText_of a.2 b
    cases g2 : glText a.2 with
    | none =>
      rw [g2] at h2
      simp only [Option.bind_eq_bind, Option.bind_none, Option.bind_some, g2]
      simp only [noItem, h1]
      exact noNum_bad _ (noNum_bad _ h2)
    | some t =>
      rw [g2] at h2
      simp only [] at h2
      have h3 := noNum_of t.2 b
      cases g3 : glNum t.2 with
      | none =>
        rw [g3] at h3
        simp only [Option.bind_eq_bind, Option.bind_none, Option.bind_some, g2, g3]
        simp only [noItem, h1, h2]
        exact noNum_bad _ h3
      | some c =>
        rw [g3] at h3
        simp only [] at h3
        have h4 := noNum_of c.2 b
        cases g4 : glNum c.2 with
        | none =>
          rw [g4] at h4
          simp only [Option.bind_eq_bind, Option.bind_none, Option.bind_some, g2, g3, g4]
          simp only [noItem, h1, h2, h3]
          exact h4
        | some d =>
          rw [g4] at h4
          simp only [] at h4
          simp [g2, g3, g4, noItem, h1, h2, h3, h4]
theorem noItems_of : ∀ (k : Nat) (s : List UInt8), match glItems k s with | some r => noItems k (s, false) = (r.1, (r.2, false)) | none => (noItems k (s, false)).2.2 = true
  | 0, s => rfl
  | k + 1, s => by
    have h1 := noItem_of s false
    simp only [glItems]
    cases g1 : glItem s with
    | none =>
      rw [g1] at h1
      simp only [] at h1
      simp only [Option.bind_none, noItems, Bool.false_eq_true, if_false]
      cases k with
      | zero => exact h1
      | succ k => simp only [noItems, h1, if_true]
    | some a =>
      rw [g1] at h1
      simp only [] at h1
      have h2 := noItems_of k a.2
      cases g2 : glItems k a.2 with
      | none =>
        rw [g2] at h2
        simp only [Option.bind_some, g2, Option.map_none, noItems, Bool.false_eq_true, if_false, h1]
        exact h2
      | some c =>
        rw [g2] at h2
        simp only [] at h2
        simp [g2, noItems, h1, h2]
theorem noItems_bad (k : Nat) (p : List UInt8 × Bool) (h : p.2 = true) : (noItems k p).2.2 = true := by
  cases k with
  | zero => exact h
  | succ k => simp [noItems, h]
theorem noFace_of (s : List UInt8) : match glFace s with | some r => noFace s = (r.1, (r.2, false)) | none => (noFace s).2.2 = true := by
  have h1 := noText_of s false
  simp only [glFace]
  cases g1 : glText s with
  | none =>
    rw [g1] at h1
    simp only [] at h1
    simp only [Option.bind_none, noFace]
    exact noItems_bad _ _ (noByte_bad _ h1)
  | some a =>
    rw [g1] at h1
    simp only [] at h1
    have h2 := noByte_of a.2 false
    cases g2 : glByte a.2 with
    | none =>
      rw [g2] at h2
      simp only [] at h2
      simp only [Option.bind_none, Option.bind_some, noFace, h1, g2]
      exact noItems_bad _ _ h2
    | some c =>
      rw [g2] at h2
      simp only [] at h2
      have h3 := noItems_of c.1.toNat c.2
      cases g3 : glItems c.1.toNat c.2 with
      | none =>
        rw [g3] at h3
        simp only [] at h3
        simp only [Option.bind_some, g2, g3, Option.map_none, noFace, h1, h2]
        exact h3
      | some d =>
        rw [g3] at h3
        simp only [] at h3
        simp [g2, g3, noFace, h1, h2, h3]
/-! ### The laws -/
theorem read_law {s : List UInt8} (h : ¬ 32768 < s.length) : readF s = ((fromF s).1, if (fromF s).2 = true then 0 else 1) := by
  unfold readF fromF
  rw [if_neg h]
  have hn := noFace_of s
  unfold readR
  cases g : glFace s with
  | none =>
    rw [g] at hn
    simp [hn]
  | some r =>
    obtain ⟨f, rest⟩ := r
    rw [g] at hn
    simp only [] at hn
    have hb := glFace_back g
    rw [hn]
    cases rest with
    | nil =>
      simp only [List.append_nil] at hb
      by_cases he : faceE f.1 f.2 = 0
      · simp [he, ← hb]
      · simp [he]
    | cons x q =>
      have : faceB f.1 f.2 ≠ s := by intro e; rw [e] at hb; simp at hb
      simp [this]
theorem face_len {name : List UInt8} {items : List Item} (h : faceE name items = 0) : ¬ 32768 < (faceB name items).length := by
  obtain ⟨h16, hn, hx⟩ := faceE_ok h
  have := items_len items hx
  simp only [faceB, List.length_append, textB_len, List.length_singleton]
  omega
theorem write_read {name : List UInt8} {items : List Item} (h : faceE name items = 0) : readF (faceB name items) = ((name, items), 0) := by
  unfold readF
  rw [if_neg (face_len h)]
  simp [readR, glFace_fwd h, h]
theorem read_write {s : List UInt8} (h : (readF s).2 = 0) : writeR (readF s).1.1 (readF s).1.2 = (s, 0) := by
  unfold readF at h ⊢
  split at h
  · cases h
  · rename_i h0
    rw [if_neg h0]
    unfold readR at h ⊢
    cases g : glFace s with
    | none => rw [g] at h; cases h
    | some r =>
      obtain ⟨f, rest⟩ := r
      rw [g] at h
      cases rest with
      | cons x q => cases h
      | nil =>
        have hb := glFace_back g
        simp only [List.append_nil] at hb
        simp only [] at h ⊢
        by_cases he : faceE f.1 f.2 = 0
        · simp [he, writeR, ← hb]
        · rw [if_neg he] at h; cases h




end Go.Proofs.Ytagoencpeflmlaa
