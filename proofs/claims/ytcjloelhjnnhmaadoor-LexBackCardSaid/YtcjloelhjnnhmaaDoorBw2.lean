/- Own base: rules that step through the code of a function, with what is known of its slots and of the memory kept as a list; no condition. -/
import Derived.Test.YtcjloelhjnnhmaaDoorBw1
namespace Go.Bw
open Go Go.RowKit

/-! ### Memory: what was there, what is our own, what is only read -/
abbrev View := Nat → Option Obj
def Le (H : View) (w : World) : Prop := ∀ b o, H b = some o → w.heap[b]? = some o
def VLe (H H' : View) : Prop := ∀ b o, H b = some o → H' b = some o
theorem VLe.refl (H : View) : VLe H H := fun _ _ h => h
theorem VLe.trans {A B C : View} (h : VLe A B) (k : VLe B C) : VLe A C := fun b o x => k b o (h b o x)
theorem Le.of_vle {H H' : View} {w : World} (h : VLe H H') (k : Le H' w) : Le H w := fun b o x => k b o (h b o x)
def Fresh (w : World) (H : View) : Prop := ∀ b, b < w.heap.size → H b = none
/-- All that is there, but what was there before. -/
def nv (w0 w : World) : View := fun b => if w0.heap.size ≤ b then w.heap[b]? else none
theorem nv_le (w0 w : World) : Le (nv w0 w) w := fun b o h => by unfold nv at h; split at h; exact h; cases h
theorem nv_fresh (w0 w : World) : Fresh w0 (nv w0 w) := fun b h => by unfold nv; rw [if_neg (by omega)]
theorem nv_of {w0 w : World} {H : View} (hl : Le H w) (hf : Fresh w0 H) : VLe H (nv w0 w) := fun b o h => by
  unfold nv
  rw [if_pos, hl b o h]
  rcases Nat.lt_or_ge b w0.heap.size with hb | hb
  · rw [hf b hb] at h; cases h
  · exact hb
theorem Fresh.mono {w w' : World} {H : View} (h : Fresh w' H) (hs : w.heap.size ≤ w'.heap.size) : Fresh w H := fun b hb => h b (by omega)

/-- Of what was there only the blocks of F may have turned. -/
structure Fr (F : List Nat) (w0 w : World) : Prop where
  os : w.os = w0.os
  tape : w.tape = w0.tape
  output : w.output = w0.output
  size : w0.heap.size ≤ w.heap.size
  block : ∀ k, k < w0.heap.size → k ∉ F → w.heap[k]? = w0.heap[k]?
abbrev Ext (w w' : World) : Prop := Fr [] w w'
theorem Fr.refl (F : List Nat) (w : World) : Fr F w w := ⟨rfl, rfl, rfl, Nat.le_refl _, fun _ _ _ => rfl⟩
theorem Fr.trans {F G : List Nat} {a b c : World} (h : Fr F a b) (k : Fr G b c) (hG : ∀ x ∈ G, x ∈ F ∨ a.heap.size ≤ x) : Fr F a c :=
  ⟨k.os.trans h.os, k.tape.trans h.tape, k.output.trans h.output, Nat.le_trans h.size k.size, fun i hi hF =>
    (k.block i (Nat.lt_of_lt_of_le hi h.size) fun hg => by rcases hG i hg with h' | h'; exact hF h'; omega).trans (h.block i hi hF)⟩
theorem Ext.trans {a b c : World} (h : Ext a b) (k : Ext b c) : Ext a c := Fr.trans h k (by simp)
theorem Ext.below {w w' : World} (h : Ext w w') : Below w.heap.size w w' := ⟨h.os, h.tape, h.output, h.size, fun k hk => h.block k hk (by simp)⟩
theorem Ext.of_below {w w' : World} (h : Below w.heap.size w w') : Ext w w' := ⟨h.os, h.tape, h.output, h.size, fun k hk _ => h.block k hk⟩
theorem Ext.drew (w : World) : Ext w w.drew := ⟨rfl, rfl, rfl, Nat.le_refl _, fun _ _ _ => rfl⟩
theorem Ext.alloc (w : World) (o : Obj) : Ext w (w.alloc o) := ⟨rfl, rfl, rfl, by simp, fun k hk _ => Below.heap_alloc _ _ _ hk⟩
theorem lt_of_heap {w : World} {b : Nat} {o : Obj} (h : w.heap[b]? = some o) : b < w.heap.size := by
  rcases Nat.lt_or_ge b w.heap.size with hb | hb
  · exact hb
  · rw [Array.getElem?_eq_none hb] at h; cases h
theorem Le.ext {H : View} {w w' : World} (h : Le H w) (e : Ext w w') : Le H w' := fun b o x => (e.block b (lt_of_heap (h b o x)) (by simp)).trans (h b o x)

/-- A thing that is our own: which blocks it has, what holds of them. -/
structure Asr where
  ids : List Nat
  holds : World → Prop
  loc : ∀ w w', (∀ k ∈ ids, w'.heap[k]? = w.heap[k]?) → holds w → holds w'
  pres : ∀ w, holds w → ∀ k ∈ ids, k < w.heap.size
/-- One block, known whole. -/
def blk (b : Nat) (o : Obj) : Asr := ⟨[b], fun w => w.heap[b]? = some o, fun w w' h hw => (h b (by simp)).trans hw, fun w hw k hk => by simp at hk; subst hk; exact lt_of_heap hw⟩
def cel (cs : List Value) (T : TypeId) : Obj := .cells cs.toArray T (0, 0)

structure Ws (w0 : World) (F : List Nat) (L : List Asr) (Vs : List View) (w : World) : Prop where
  fr : Fr F w0 w
  kn : ∀ A ∈ L, A.holds w
  nd : (L.flatMap Asr.ids).Nodup
  own : ∀ A ∈ L, ∀ k ∈ A.ids, k ∈ F ∨ w0.heap.size ≤ k
  vs : ∀ H ∈ Vs, Le H w
  off : ∀ H ∈ Vs, ∀ A ∈ L, ∀ k ∈ A.ids, H k = none

section
variable {w0 w w' : World} {F : List Nat} {L L' L2 : List Asr} {Vs : List View}
theorem Ws.init (hV : ∀ H ∈ Vs, Le H w) : Ws w [] [] Vs w := ⟨Fr.refl _ _, by simp, by simp, by simp, hV, by simp⟩
/-- Some of our things have become others, nothing else of what was there has turned. -/
theorem Ws.turn (h : Ws w0 F (L ++ L2) Vs w) (hf : Fr (L.flatMap Asr.ids) w w') (hk : ∀ A ∈ L', A.holds w')
    (hn : (L'.flatMap Asr.ids).Nodup) (hi : ∀ A ∈ L', ∀ k ∈ A.ids, k ∈ L.flatMap Asr.ids ∨ w.heap.size ≤ k) : Ws w0 F (L' ++ L2) Vs w' := by
  have nd := h.nd
  rw [List.flatMap_append, List.nodup_append] at nd
  have same : ∀ A ∈ L2, ∀ k ∈ A.ids, w'.heap[k]? = w.heap[k]? := fun A hA k hk =>
    hf.block k (A.pres w (h.kn A (by simp [hA])) k hk) fun hm => nd.2.2 k hm k (List.mem_flatMap.2 ⟨A, hA, hk⟩) rfl
  refine ⟨?_, ?_, ?_, ?_, ?_, ?_⟩
  · refine h.fr.trans hf fun x hx => ?_
    obtain ⟨A, hA, hxA⟩ := List.mem_flatMap.1 hx
    exact h.own A (by simp [hA]) x hxA
  · intro A hA
    rcases List.mem_append.1 hA with hA | hA
    · exact hk A hA
    · exact A.loc w w' (same A hA) (h.kn A (by simp [hA]))
  · rw [List.flatMap_append, List.nodup_append]
    refine ⟨hn, nd.2.1, fun x hx y hy e => ?_⟩
    subst e
    obtain ⟨A, hA, hxA⟩ := List.mem_flatMap.1 hx
    obtain ⟨B, hB, hxB⟩ := List.mem_flatMap.1 hy
    rcases hi A hA x hxA with h1 | h1
    · exact nd.2.2 x h1 x hy rfl
    · have := B.pres w (h.kn B (by simp [hB])) x hxB
      omega
  · intro A hA k hkA
    rcases List.mem_append.1 hA with hA | hA
    · rcases hi A hA k hkA with h1 | h1
      · obtain ⟨B, hB, hxB⟩ := List.mem_flatMap.1 h1
        exact h.own B (by simp [hB]) k hxB
      · exact .inr (Nat.le_trans h.fr.size h1)
    · exact h.own A (by simp [hA]) k hkA
  · intro H hH b o hb
    rw [hf.block b (lt_of_heap (h.vs H hH b o hb))]
    · exact h.vs H hH b o hb
    · intro hm
      obtain ⟨A, hA, hxA⟩ := List.mem_flatMap.1 hm
      have := h.off H hH A (by simp [hA]) b hxA
      rw [this] at hb; cases hb
  · intro H hH A hA k hkA
    rcases List.mem_append.1 hA with hA | hA
    · rcases hi A hA k hkA with h1 | h1
      · obtain ⟨B, hB, hxB⟩ := List.mem_flatMap.1 h1
        exact h.off H hH B (by simp [hB]) k hxB
      · cases hb : H k with
        | none => rfl
        | some o => have := lt_of_heap (h.vs H hH k o hb); omega
    · exact h.off H hH A (by simp [hA]) k hkA
theorem Ws.ext (h : Ws w0 F L Vs w) (e : Ext w w') : Ws w0 F L Vs w' := by
  have := Ws.turn (L := []) (L' := []) (L2 := L) (by simpa using h) (by simpa using e) (by simp) (by simp) (by simp)
  simpa using this
theorem Ws.alloc (h : Ws w0 F L Vs w) (o : Obj) : Ws w0 F (blk w.heap.size o :: L) Vs (w.alloc o) := by
  have := Ws.turn (L := []) (L' := [blk w.heap.size o]) (L2 := L) (by simpa using h) (by simpa using Ext.alloc w o)
    (by intro A hA; simp at hA; subst hA; show (w.heap.push o)[w.heap.size]? = some o; simp) (by simp [blk]) (by simp [blk])
  simpa using this
theorem Ws.view (h : Ws w0 F L Vs w) (e : Ext w w') {H : View} (hl : Le H w') (hf : Fresh w H) : Ws w0 F L (H :: Vs) w' := by
  have g := h.ext e
  refine ⟨g.fr, g.kn, g.nd, g.own, ?_, ?_⟩
  · intro V hV
    rcases List.mem_cons.1 hV with rfl | hV
    · exact hl
    · exact g.vs V hV
  · intro V hV A hA k hk
    rcases List.mem_cons.1 hV with rfl | hV
    · exact hf k (A.pres w (h.kn A hA) k hk)
    · exact g.off V hV A hA k hk
/-- Some of our things may be forgotten, or stand in another order. -/
theorem Ws.perm (h : Ws w0 F L Vs w) (hp : L.Perm L') : Ws w0 F L' Vs w :=
  ⟨h.fr, fun A hA => h.kn A (hp.mem_iff.2 hA), (List.Perm.flatMap_right _ hp).nodup_iff.1 h.nd, fun A hA => h.own A (hp.mem_iff.2 hA), h.vs, fun H hH A hA => h.off H hH A (hp.mem_iff.2 hA)⟩
theorem Ws.drop (h : Ws w0 F (L ++ L') Vs w) : Ws w0 F L' Vs w := by
  have nd := h.nd
  rw [List.flatMap_append, List.nodup_append] at nd
  exact ⟨h.fr, fun A hA => h.kn A (by simp [hA]), nd.2.1, fun A hA => h.own A (by simp [hA]), h.vs, fun H hH A hA => h.off H hH A (by simp [hA])⟩
theorem Ws.drops (h : Ws w0 F L Vs w) {Vs' : List View} (hs : ∀ H ∈ Vs', H ∈ Vs) : Ws w0 F L Vs' w :=
  ⟨h.fr, h.kn, h.nd, h.own, fun H hH => h.vs H (hs H hH), fun H hH => h.off H (hs H hH)⟩
end

/-- The i-th thing is taken out of a list. -/
def outOf {α : Type} : Nat → List α → List α
  | _, [] => []
  | 0, _ :: r => r
  | i + 1, x :: r => x :: outOf i r
theorem outOf_perm {α : Type} {x : α} : ∀ (i : Nat) (l : List α), l[i]? = some x → l.Perm (x :: outOf i l)
  | _, [], h => by cases h
  | 0, y :: r, h => by simp at h; subst h; exact List.Perm.refl _
  | i + 1, y :: r, h => by
    have := outOf_perm i r (by simpa using h)
    exact (List.Perm.cons y this).trans (List.Perm.swap _ _ _)
/-- The i-th thing is put back in its place. -/
theorem set_perm {α : Type} {x y : α} : ∀ (i : Nat) (l : List α), l[i]? = some x → (y :: outOf i l).Perm (l.set i y)
  | _, [], h => by cases h
  | 0, z :: r, _ => by simp [outOf]
  | i + 1, z :: r, h => by
    have := set_perm (y := y) i r (by simpa using h)
    exact (List.Perm.swap _ _ _).trans (List.Perm.cons z this)
theorem Ws.turn1 {w0 w w' : World} {F : List Nat} {L : List Asr} {Vs : List View} (h : Ws w0 F L Vs w) (i : Nat) {A B : Asr} (hi : L[i]? = some A) (hf : Fr A.ids w w') (hk : B.holds w')
    (hn : B.ids.Nodup) (hids : ∀ k ∈ B.ids, k ∈ A.ids ∨ w.heap.size ≤ k) : Ws w0 F (L.set i B) Vs w' := by
  have h1 := h.perm (outOf_perm i L hi)
  have h2 := Ws.turn (L := [A]) (L' := [B]) (L2 := outOf i L) (by simpa using h1) (by simpa using hf) (by simpa using hk) (by simpa using hn) (by simpa using hids)
  exact Ws.perm (by simpa using h2) (set_perm i L hi)
theorem mem_of_idx {α : Type} {l : List α} {i : Nat} {x : α} (h : l[i]? = some x) : x ∈ l := List.mem_of_getElem? h
end Go.Bw
