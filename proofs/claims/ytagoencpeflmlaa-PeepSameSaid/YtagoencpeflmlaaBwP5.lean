/- Walks of the peepholes and of what the law of this claim calls, and plain laws on what they compute; each theorem tells its own conditions. -/
import Derived.Test.YtagoencpeflmlaaRows
import Derived.Test.YtagoencpeflmlaaBwN6
namespace Go.Proofs.Ytagoencpeflmlaa
open Go.Bw
set_option linter.unusedVariables false
set_option linter.unusedSimpArgs false

def atI (l : List Ins) (k : Nat) : Ins := (l[k]?).getD ⟨0, 0, 0⟩
theorem atI_get {l : List Ins} {k : Nat} (h : k < l.length) : l[k]? = some (atI l k) := by
  unfold atI; rw [List.getElem?_eq_getElem h]; rfl
theorem ins_op {cur : List Ins} {k : Nat} {x : Ins} (h : cur[k]? = some x) : (cur.flatMap Ins.cells)[0 + k * 3 + 0]? = some (.int .i64 x.op) := by
  rw [Nat.zero_add]; exact flat_get Ins.cells_len h (by decide)
theorem ins_a {cur : List Ins} {k : Nat} {x : Ins} (h : cur[k]? = some x) : (cur.flatMap Ins.cells)[0 + k * 3 + 1]? = some (.int .i64 x.a) := by
  rw [Nat.zero_add]; exact flat_get Ins.cells_len h (by decide)
theorem ins_le {cur : List Ins} {k j : Nat} {x : Ins} (h : cur[k]? = some x) (hj : j ≤ 3) : 0 + k * 3 + j ≤ (cur.flatMap Ins.cells).length := by
  rw [flat_length Ins.cells_len]
  have := (List.getElem?_eq_some_iff.1 h).1
  omega
theorem ins_le1 {cur : List Ins} {k : Nat} {x : Ins} (h : cur[k]? = some x) : 0 + k * 3 + 1 + 1 ≤ (cur.flatMap Ins.cells).length := ins_le h (j := 2) (by decide)
theorem ins_le3 {cur : List Ins} {k : Nat} {x : Ins} (h : cur[k]? = some x) : 0 + k * 3 + 3 ≤ (cur.flatMap Ins.cells).length := ins_le h (by decide)
theorem ins_seta {cur : List Ins} {k : Nat} {x : Ins} (h : cur[k]? = some x) (v : Int) :
    (cur.flatMap Ins.cells).take (0 + k * 3 + 1) ++ vcells (.int .i64 v) ++ (cur.flatMap Ins.cells).drop (0 + k * 3 + 1 + (vcells (.int .i64 v)).length) = (cur.set k ⟨x.op, v, x.b⟩).flatMap Ins.cells := by
  rw [Nat.zero_add]; exact flat_set Ins.cells_len h (by simp [vcells]) rfl
theorem ins_set {cur : List Ins} {k : Nat} {x : Ins} (h : cur[k]? = some x) (a b c : Int) :
    (cur.flatMap Ins.cells).take (0 + k * 3) ++ vcells (.agg #[.int .i64 a, .int .i64 b, .int .i64 c]) ++ (cur.flatMap Ins.cells).drop (0 + k * 3 + (vcells (.agg #[.int .i64 a, .int .i64 b, .int .i64 c])).length) = (cur.set k ⟨a, b, c⟩).flatMap Ins.cells := by
  rw [Nat.zero_add]; exact flat_set Ins.cells_len h (j := 0) (by simp [vcells]) rfl
def rdInt (H : View) (b o : Nat) (x : Int) : Prop := vc H b o = some (.int .i64 x)
/-- What is our own, read in the view of all. -/
theorem hv_ins {w0 w : World} {F : List Nat} {L : List Asr} {Vs : List View} (h : Ws w0 F L Vs w) (i : Nat) {m c b e : Nat} {cur : List Ins} (hL : L[i]? = some (osl e 3 (.slice (some ⟨b, 0, none⟩) m c) m (cur.flatMap Ins.cells))) (hc : cur.length ≤ c) (hx : c ≤ 9223372036854775807) : Sl rdIns 3 (hv w) (some ⟨b, 0, none⟩) c cur :=
  ⟨hc, hx, by simp, fun j x hj => ⟨b, 0, rfl, fun k v hk => h.hvo i hL (by
    have : k < 3 := (List.getElem?_eq_some_iff.1 hk).1
    rw [Nat.zero_add, flat_get Ins.cells_len hj this]; exact hk)⟩⟩
theorem hv_ints {w0 w : World} {F : List Nat} {L : List Asr} {Vs : List View} (h : Ws w0 F L Vs w) (i : Nat) {b c : Nat} {ob : Obj} {xs : List Int} (hL : L[i]? = some (blk b ob)) (hc : xs.length ≤ c) (hm : c ≤ 9223372036854775807) (hx : ∀ j x, xs[j]? = some x → cellIn ob (0 + j * 1) = some (.int .i64 x)) : Sl rdInt 1 (hv w) (some ⟨b, 0, none⟩) c xs :=
  ⟨hc, hm, by simp, fun j x hj => ⟨b, 0, rfl, h.hvb i hL (hx j x hj)⟩⟩
theorem own_ins {w0 w : World} {L : List Asr} {Vs : List View} (h : Ws w0 [] L Vs w) (i : Nat) {m c b e : Nat} {cur : List Ins} (hL : L[i]? = some (osl e 3 (.slice (some ⟨b, 0, none⟩) m c) m (cur.flatMap Ins.cells))) (hc : cur.length = m) : Sl rdIns 3 (nv w0 w) (some ⟨b, 0, none⟩) c cur := by
  rcases h.nvs i hL with ⟨h1, _⟩ | ⟨b', c', h1, h2, h3, h4⟩
  · cases h1
  · injection h1 with h5 _ h6; injection h5 with h5; injection h5 with h5; subst h5 h6
    exact ⟨by omega, by unfold maxLen at h3; omega, by simp, fun j x hj => ⟨_, 0, rfl, fun k v hk => h4 _ _ (by
      have : k < 3 := (List.getElem?_eq_some_iff.1 hk).1
      rw [Nat.zero_add, flat_get Ins.cells_len hj this]; exact hk)⟩⟩
def threadL (code cur : List Ins) (k : Nat) : List Ins :=
  if (decide (0 ≤ (atI cur k).a) && decide ((atI cur k).a < (code.length : Int)) && ((atI cur k).a != (k : Int)) && ((atI code (atI cur k).a.toNat).op == 11)) = true then cur.set k ⟨(atI cur k).op, (atI code (atI cur k).a.toNat).a, (atI cur k).b⟩ else cur
def okAt (mk : List Bool) (cur : List Ins) (m : Nat) (o : Int) : Bool := decide (m < cur.length) && ((atI cur m).op == o && !(mk[m]?.getD true))
def thenB (mk : List Bool) (cur : List Ins) (k : Nat) (os : List Int) : Bool := (List.range os.length).all fun i => okAt mk cur (k + 1 + i) (os[i]?.getD 0)
def nops (cur : List Ins) (k : Nat) : Nat → List Ins
  | 0 => cur
  | i + 1 => (nops cur k i).set (k + i) ⟨21, 0, 0⟩
theorem nops_len (cur : List Ins) (k : Nat) : ∀ i, (nops cur k i).length = cur.length
  | 0 => rfl
  | i + 1 => by simp [nops, nops_len cur k i]
def layL (cur : List Ins) (k n : Nat) (x : Ins) : List Ins := (nops cur k (n - 1)).set (k + n - 1) x
theorem layL_len (cur : List Ins) (k n : Nat) (x : Ins) : (layL cur k n x).length = cur.length := by simp [layL, nops_len]
def pushedL (mk : List Bool) (cur : List Ins) (k : Nat) : List Ins :=
  if thenB mk cur k [1, 10] = true then (if (mmath (atI cur (k + 2)).a (atI cur k).a (atI cur (k + 1)).a).2 = true then layL cur k 3 ⟨1, (mmath (atI cur (k + 2)).a (atI cur k).a (atI cur (k + 1)).a).1, 0⟩ else cur)
  else if (thenB mk cur k [12] && (atI cur k).a == 0) = true then layL cur k 2 ⟨11, (atI cur (k + 1)).a, 0⟩
  else if thenB mk cur k [9] = true then layL cur k 2 ⟨1, bitI ((atI cur k).a == 0), 0⟩
  else if thenB mk cur k [22] = true then layL cur k 2 ⟨1, bitI ((atI cur k).a != 0), 0⟩
  else if (thenB mk cur k [12] || thenB mk cur k [17]) = true then layL cur k 2 ⟨21, 0, 0⟩
  else cur
theorem threadL_len (code cur : List Ins) (k : Nat) : (threadL code cur k).length = cur.length := by unfold threadL; split <;> simp
theorem pushedL_len (mk : List Bool) (cur : List Ins) (k : Nat) : (pushedL mk cur k).length = cur.length := by
  unfold pushedL
  repeat' split
  all_goals simp only [layL_len]
theorem okAt_not (mk : List Bool) (cur : List Ins) (m : Nat) (o : Int) : ((decide ((cur.length : Int) ≤ (m : Int)) || ((atI cur m).op != o)) || (mk[m]?.getD true)) = !(okAt mk cur m o) := by
  unfold okAt
  have e : decide ((cur.length : Int) ≤ (m : Int)) = !(decide (m < cur.length)) := by
    by_cases h : m < cur.length
    · simp [h]
    · simp [h]; omega
  rw [e]
  generalize (mk[m]?.getD true) = b
  simp only [bne]
  generalize ((atI cur m).op == o) = c
  generalize decide (m < cur.length) = d
  cases b <;> cases c <;> cases d <;> rfl
theorem thenB_no {mk : List Bool} {cur : List Ins} {k i : Nat} {os : List Int} (hi : i < os.length) (h : okAt mk cur (k + 1 + i) (os[i]?.getD 0) = false) : thenB mk cur k os = false := by
  unfold thenB
  rw [List.all_eq_false]
  exact ⟨i, by simp [hi], by simp [h]⟩
theorem thenB_yes {mk : List Bool} {cur : List Ins} {k : Nat} {os : List Int} (h : ∀ i, i < os.length → okAt mk cur (k + 1 + i) (os[i]?.getD 0) = true) : thenB mk cur k os = true := by
  unfold thenB
  rw [List.all_eq_true]
  intro i hi
  exact h i (by simpa using hi)
theorem thenB_lt {mk : List Bool} {cur : List Ins} {k : Nat} {os : List Int} (h : thenB mk cur k os = true) {i : Nat} (hi : i < os.length) : k + 1 + i < cur.length := by
  unfold thenB at h
  have := List.all_eq_true.1 h i (by simp [hi])
  unfold okAt at this
  simp at this
  exact this.1
theorem fo70_1 : fieldOff Try.prog 70 1 = some 2 := by kernel_rfl
theorem fo70_0 : fieldOff Try.prog 70 0 = some 0 := by kernel_rfl
theorem fo70_2 : fieldOff Try.prog 70 2 = some 3 := by kernel_rfl
theorem na25 : nonAgg Try.prog 25 = true := by kernel_rfl

theorem thread_any (bh bc : Nat) (am ak : Option Addr) (cm cc ck : Nat) (data : Int) (H K : View) (code cur : List Ins) (mk : List Bool) (k : Nat) (w : World) (hm : Sl rdIns 3 H am cm code) (hl : cur.length = code.length) (hlk : mk.length = code.length) (hmk : Sl rdBool 1 K ak ck mk) (hk : k < code.length) (hcc : code.length ≤ cc) (hcm : cc ≤ 9223372036854775807) (hw : Ws w [bh, bc] [blk bh (.cells #[.slice am code.length cm, .int .i64 data, .slice (some ⟨bc, 0, none⟩) code.length cc, .slice ak code.length ck] 70 (0, 0)), osl 65 3 (.slice (some ⟨bc, 0, none⟩) code.length cc) code.length ((cur).flatMap Ins.cells)] [H, K] w) :
    Calls Try.prog 34 #[.pointer (some ⟨bh, 0, none⟩), .int .i64 (k : Int)] w fun e w' => e = .returned (.tuple #[]) ∧ Ws w [bh, bc] [blk bh (.cells #[.slice am code.length cm, .int .i64 data, .slice (some ⟨bc, 0, none⟩) code.length cc, .slice ak code.length ck] 70 (0, 0)), osl 65 3 (.slice (some ⟨bc, 0, none⟩) code.length cc) code.length ((threadL code cur k).flatMap Ins.cells)] [H, K] w' := by
  have hx : cur[k]? = some (atI cur k) := atI_get (by omega)
  have hcap := hm.cap
  have hmax := hm.max
  refine enter Try.func34 rfl 57 rfl rfl ?_
  refine WC.world (W' := Ws w [bh, bc] [blk bh (.cells #[.slice am code.length cm, .int .i64 data, .slice (some ⟨bc, 0, none⟩) code.length cc, .slice ak code.length ck] 70 (0, 0)), osl 65 3 (.slice (some ⟨bc, 0, none⟩) code.length cc) code.length ((cur).flatMap Ins.cells)] [H, K]) (fun _ e => by subst e; exact hw) ?_
  refine WC.seq ?_
  refine WC.region ?_
  refine WL.val (.inl rfl) rfl (yl_move rfl) ?_
  refine WL.val (.inl rfl) rfl (yl_nil rfl) ?_
  refine WL.val (.inl rfl) rfl (yl_fa fo70_1 rfl) ?_
  refine WL.val (.inl rfl) rfl (yl_ldk 0 rfl rfl rfl na22) ?_
  refine WL.val (.inl rfl) rfl (yl_move rfl) ?_
  refine WL.val (.inl rfl) rfl (yl_iak es22 rfl rfl (by omega)) ?_
  refine WL.val (.inl rfl) rfl (yl_fa fo65_1 rfl) ?_
  refine WL.val (.inl rfl) rfl (yl_ldo 1 rfl rfl na3 (ins_a hx)) ?_
  refine WL.val (.inl rfl) rfl (yl_assign rfl) ?_
  refine WL.nil ?_
  refine WE.then_normal ?_
  refine WC.seq ?_
  refine WC.region ?_
  refine WL.val (.inl rfl) rfl (yl_move rfl) ?_
  refine WL.val (.inl rfl) rfl (yl_ge rfl rfl) ?_
  refine WL.val (.inl rfl) rfl (yl_move rfl) ?_
  apply WL.and 7 rfl rfl rfl rfl (.inl rfl) rfl rfl rfl rfl rfl
  ·
    intro hg0
    refine WL.val (.inr ⟨_, _, _, rfl, rfl, rfl⟩) rfl (yl_move rfl) ?_
    refine WL.val (.inr ⟨_, _, _, rfl, rfl, rfl⟩) rfl (yl_move rfl) ?_
    refine WL.val (.inr ⟨_, _, _, rfl, rfl, rfl⟩) rfl (yl_nil rfl) ?_
    refine WL.val (.inr ⟨_, _, _, rfl, rfl, rfl⟩) rfl (yl_fa fo70_1 rfl) ?_
    refine WL.val (.inr ⟨_, _, _, rfl, rfl, rfl⟩) rfl (yl_ldk 0 rfl rfl rfl na22) ?_
    refine WL.val (.inr ⟨_, _, _, rfl, rfl, rfl⟩) rfl (yl_len es22 rfl) ?_
    refine WL.val (.inr ⟨_, _, _, rfl, rfl, rfl⟩) rfl (yl_lt rfl rfl) ?_
    exact Got.intro 7 rfl rfl rfl
  refine WL.val (.inl rfl) rfl (yl_move rfl) ?_
  apply WL.and 3 rfl rfl rfl rfl (.inl rfl) rfl rfl rfl rfl rfl
  ·
    intro hg1
    refine WL.val (.inr ⟨_, _, _, rfl, rfl, rfl⟩) rfl (yl_move rfl) ?_
    refine WL.val (.inr ⟨_, _, _, rfl, rfl, rfl⟩) rfl (yl_move rfl) ?_
    refine WL.val (.inr ⟨_, _, _, rfl, rfl, rfl⟩) rfl (yl_ne rfl rfl) ?_
    exact Got.intro 3 rfl rfl rfl
  refine WL.val (.inl rfl) rfl (yl_move rfl) ?_
  apply WL.and 10 rfl rfl rfl rfl (.inl rfl) rfl rfl rfl rfl rfl
  ·
    intro hg2
    have hlt : ((0 ≤ (atI cur k).a) ∧ (atI cur k).a < (code.length : Int)) := by simp at hg2; exact hg2.1
    obtain ⟨h0, h1⟩ := hlt
    obtain ⟨pb, po, ha, hrow⟩ := hm.elt _ _ (atI_get (l := code) (k := (atI cur k).a.toNat) (by omega))
    have hrow : RdC H pb (po + (atI cur k).a.toNat * 3) (atI code (atI cur k).a.toNat).cells := hrow
    refine WL.val (.inr ⟨_, _, _, rfl, rfl, rfl⟩) rfl (yl_move rfl) ?_
    refine WL.val (.inr ⟨_, _, _, rfl, rfl, rfl⟩) rfl (yl_nil rfl) ?_
    refine WL.val (.inr ⟨_, _, _, rfl, rfl, rfl⟩) rfl (yl_fa fo70_0 rfl) ?_
    refine WL.val (.inr ⟨_, _, _, rfl, rfl, rfl⟩) rfl (yl_fa fo24_0 rfl) ?_
    refine WL.val (.inr ⟨_, _, _, rfl, rfl, rfl⟩) rfl (yl_ldk 0 rfl rfl rfl na22) ?_
    refine WL.val (.inr ⟨_, _, _, rfl, rfl, rfl⟩) rfl (yl_move rfl) ?_
    refine WL.val (.inr ⟨_, _, _, rfl, rfl, rfl⟩) rfl (yl_iai es22 rfl rfl ha h0 (by omega)) ?_
    refine WL.val (.inr ⟨_, _, _, rfl, rfl, rfl⟩) rfl (yl_fa fo65_0 rfl) ?_
    refine WL.val (.inr ⟨_, _, _, rfl, rfl, rfl⟩) rfl (yl_ld 0 na3 rfl rfl (hrow 0 _ rfl)) ?_
    refine WL.val (.inr ⟨_, _, _, rfl, rfl, rfl⟩) rfl (yl_eq rfl rfl) ?_
    exact Got.intro 10 rfl rfl rfl
  refine WL.nil ?_
  refine WE.then_normal ?_
  refine WC.cond rfl (fun hc0 => ?_) (fun hc0 => ?_)
  ·
    have hlt : ((0 ≤ (atI cur k).a) ∧ (atI cur k).a < (code.length : Int)) := by simp at hc0; exact hc0.1.1
    obtain ⟨h0, h1⟩ := hlt
    obtain ⟨pb, po, ha, hrow⟩ := hm.elt _ _ (atI_get (l := code) (k := (atI cur k).a.toNat) (by omega))
    have hrow : RdC H pb (po + (atI cur k).a.toNat * 3) (atI code (atI cur k).a.toNat).cells := hrow
    refine WC.draws1 1 [(0, true), (1, true), (2, true), (3, true), (4, true), (5, true), (6, true), (7, true), (8, true), (9, true), (10, true), (11, true), (12, true), (13, true), (14, true), (15, true), (16, false)] mixed (by kernel_rfl) (fun _ _ _ d _ h => by cases d <;> exact h) ?_
    refine WD.q rfl (.inl rfl) rfl (fun _ h => by have h := Ws.out 1 h; exact h) (yl_move rfl) ?_
    refine WD.q rfl (.inl rfl) rfl (fun _ h => by have h := Ws.out 1 h; exact h) (yl_nil rfl) ?_
    refine WD.q rfl (.inl rfl) rfl (fun _ h => by have h := Ws.out 1 h; exact h) (yl_fa fo70_1 rfl) ?_
    refine WD.q rfl (.inl rfl) rfl (fun _ h => by have h := Ws.out 1 h; exact h) (yl_ldk 0 rfl rfl rfl na22) ?_
    refine WD.q rfl (.inl rfl) rfl (fun _ h => by have h := Ws.out 1 h; exact h) (yl_move rfl) ?_
    refine WD.q rfl (.inl rfl) rfl (fun _ h => by have h := Ws.out 1 h; exact h) (yl_move rfl) ?_
    refine WD.q rfl (.inl rfl) rfl (fun _ h => by have h := Ws.out 1 h; exact h) (yl_nil rfl) ?_
    refine WD.q rfl (.inl rfl) rfl (fun _ h => by have h := Ws.out 1 h; exact h) (yl_fa fo70_0 rfl) ?_
    refine WD.q rfl (.inl rfl) rfl (fun _ h => by have h := Ws.out 1 h; exact h) (yl_fa fo24_0 rfl) ?_
    refine WD.q rfl (.inl rfl) rfl (fun _ h => by have h := Ws.out 1 h; exact h) (yl_ldk 0 rfl rfl rfl na22) ?_
    refine WD.q rfl (.inl rfl) rfl (fun _ h => by have h := Ws.out 1 h; exact h) (yl_move rfl) ?_
    refine WD.q rfl (.inl rfl) rfl (fun _ h => by have h := Ws.out 1 h; exact h) (yl_iai es22 rfl rfl ha h0 (by omega)) ?_
    refine WD.q rfl (.inl rfl) rfl (fun _ h => by have h := Ws.out 1 h; exact h) (yl_fa fo65_1 rfl) ?_
    refine WD.q rfl (.inl rfl) rfl (fun _ h => by have h := Ws.out 1 h; exact h) (yl_ld 0 na3 rfl rfl (hrow 1 _ rfl)) ?_
    refine WD.q rfl (.inl rfl) rfl (fun _ h => by have h := Ws.out 1 h; exact h) (yl_iak es22 rfl rfl (by omega)) ?_
    refine WD.q rfl (.inl rfl) rfl (fun _ h => by have h := Ws.out 1 h; exact h) (yl_fa fo65_1 rfl) ?_
    refine WD.e rfl (fun _ h => by have h := Ws.out 1 h; exact h) ?_
    refine WL.storeO 1 _ (.inl rfl) rfl rfl rfl sz3 rfl rfl (ins_le1 hx) (ins_seta hx _) ?_
    refine WL.nil ?_
    refine WE.toD ?_
    refine WD.nil (fun _ h => by have h := Ws.out 1 h; exact h) ?_
    refine WE.end0 rfl fun w' hw => ?_
    rw [threadL, if_pos hc0]
    exact ⟨rfl, hw⟩
  ·
    refine WC.skip ?_
    refine WE.end0 rfl fun w' hw => ?_
    rw [threadL, if_neg (by simp [hc0])]
    exact ⟨rfl, hw⟩

theorem pushed1_any (v : Int) (w : World) :
    Calls Try.prog 69 #[.int .i64 v] w fun e w' => e = .returned (.agg #[.int .i64 1, .int .i64 v, .int .i64 0]) ∧ Ext w w' := by
  refine enter Try.func69 rfl 5 rfl rfl ?_
  refine WC.world (W' := Ws w [] [] []) (fun _ e => by subst e; exact Ws.init (by simp)) ?_
  refine WC.seq ?_
  refine WC.region ?_
  refine WL.alloc (.inl rfl) rfl zr65 fun b2 => ?_
  refine WL.nil ?_
  refine WE.then_normal ?_
  refine WC.seq ?_
  refine WC.region ?_
  refine WL.val (.inl rfl) rfl (yl_move rfl) ?_
  refine WL.val (.inl rfl) rfl (yl_build zr65 pl65 rfl rfl) ?_
  refine WL.store 0 (.inl rfl) rfl rfl rfl sz65 rfl rfl rfl ?_
  refine WL.nil ?_
  refine WE.then_normal ?_
  refine WC.ret ?_
  refine WE.retc1 0 rfl rfl rfl ag65 rfl fun w' hw => ?_
  exact ⟨rfl, hw.fr⟩

theorem then_any (O : View) (bh N : Nat) (ac ak ao : Option Addr) (cc ck co : Nat) (cur : List Ins) (mk : List Bool) (os : List Int) (k : Nat) (w : World) (hO : Le O w) (hN : cur.length = N) (hN2 : N ≤ 2048) (h2 : vc O bh (0 + 2) = some (.slice ac N cc)) (h3 : vc O bh (0 + 3) = some (.slice ak N ck)) (hc : Sl rdIns 3 O ac cc cur) (hmk : Sl rdBool 1 O ak ck mk) (hlk : mk.length = N) (ho : Sl rdInt 1 O ao co os) (hos : os.length ≤ 2) (hk : k < N) :
    Calls Try.prog 70 #[.pointer (some ⟨bh, 0, none⟩), .int .i64 (k : Int), .slice ao os.length co] w fun e w' => e = .returned (.bool (thenB mk cur k os)) ∧ Ext w w' := by
  subst hN
  refine enter Try.func70 rfl 50 rfl rfl ?_
  refine WC.world (W' := Ws w [] [] [O]) (fun _ e => by subst e; exact Ws.init (by simp [hO])) ?_
  refine WC.seq ?_
  refine WC.region ?_
  refine WL.val (.inl rfl) rfl (yl_assign rfl) ?_
  refine WL.nil ?_
  refine WE.then_normal ?_
  refine WC.seq ?_
  refine WC.seq ?_
  refine WC.region ?_
  refine WL.val (.inl rfl) rfl (yl_move rfl) ?_
  refine WL.val (.inl rfl) rfl (yl_len es50 rfl) ?_
  refine WL.val (.inl rfl) rfl (yl_move rfl) ?_
  refine WL.nil ?_
  refine WE.then_normal ?_
  refine WC.block ?_
  refine WC.loopW (ι := Nat) (fun i => [(12, .int .i64 (i : Int))]) [(0, _), (1, _), (10, _), (11, _)] (fun i => i ≤ os.length ∧ ∀ j, j < i → okAt mk cur (k + 1 + j) (os[j]?.getD 0) = true) (fun i => os.length - i) 0 ⟨Nat.zero_le _, by simp⟩ (sc rfl (sc rfl (sc rfl (sc rfl (sc rfl sn))))) ?_
  intro i ⟨hi, hall⟩
  refine WC.seq ?_
  refine WC.region ?_
  refine WL.val (.inl rfl) rfl (yl_lt rfl rfl) ?_
  refine WL.nil ?_
  refine WE.then_normal ?_
  refine WC.seq ?_
  refine WC.cond rfl (fun hc0 => ?_) (fun hc0 => ?_)
  ·
    have hlt : i < os.length := by simpa using hc0
    obtain ⟨o, hoi⟩ : ∃ o, os[i]? = some o := ⟨_, List.getElem?_eq_getElem hlt⟩
    obtain ⟨ob, oo, hao, hro⟩ := ho.elt i o hoi
    have hro : vc O ob (oo + i * 1) = some (.int .i64 o) := hro
    refine WC.skip ?_
    refine WE.then_normal ?_
    refine WC.seq ?_
    refine WC.block ?_
    refine WC.seq ?_
    refine WC.region ?_
    refine WL.val (.inl rfl) rfl (yl_move rfl) ?_
    refine WL.val (.inl rfl) rfl (yl_iao es50 rfl rfl hao (by omega)) ?_
    refine WL.val (.inl rfl) rfl (yl_ld 0 na3 rfl rfl (hro)) ?_
    refine WL.val (.inl rfl) rfl (yl_assign rfl) ?_
    refine WL.val (.inl rfl) rfl (yl_assign rfl) ?_
    refine WL.nil ?_
    refine WE.then_normal ?_
    refine WC.seq ?_
    refine WC.region ?_
    refine WL.val (.inl rfl) rfl (yl_move rfl) ?_
    refine WL.val (.inl rfl) rfl (yl_inc rfl rfl rfl (by omega)) ?_
    refine WL.val (.inl rfl) rfl (yl_move rfl) ?_
    refine WL.val (.inl rfl) rfl (yl_addn rfl rfl rfl rfl (by omega)) ?_
    refine WL.val (.inl rfl) rfl (yl_assign rfl) ?_
    refine WL.nil ?_
    refine WE.then_normal ?_
    refine WC.seq ?_
    refine WC.region ?_
    refine WL.val (.inl rfl) rfl (yl_move rfl) ?_
    refine WL.val (.inl rfl) rfl (yl_move rfl) ?_
    refine WL.val (.inl rfl) rfl (yl_nil rfl) ?_
    refine WL.val (.inl rfl) rfl (yl_fa fo70_1 rfl) ?_
    refine WL.val (.inl rfl) rfl (yl_ld 0 na22 rfl rfl (h2)) ?_
    refine WL.val (.inl rfl) rfl (yl_len es22 rfl) ?_
    refine WL.val (.inl rfl) rfl (yl_ge rfl rfl) ?_
    refine WL.val (.inl rfl) rfl (yl_move rfl) ?_
    apply WL.or 10 rfl rfl rfl rfl (.inl rfl) rfl rfl rfl rfl rfl
    ·
      intro hg0
      have hml : k + 1 + i < cur.length := by simp at hg0; omega
      obtain ⟨pb, po, ha, hrow⟩ := hc.elt _ _ (atI_get hml)
      have hrow : RdC O pb (po + (k + 1 + i) * 3) (atI cur (k + 1 + i)).cells := hrow
      refine WL.val (.inr ⟨_, _, _, rfl, rfl, rfl⟩) rfl (yl_move rfl) ?_
      refine WL.val (.inr ⟨_, _, _, rfl, rfl, rfl⟩) rfl (yl_nil rfl) ?_
      refine WL.val (.inr ⟨_, _, _, rfl, rfl, rfl⟩) rfl (yl_fa fo70_1 rfl) ?_
      refine WL.val (.inr ⟨_, _, _, rfl, rfl, rfl⟩) rfl (yl_ld 0 na22 rfl rfl (h2)) ?_
      refine WL.val (.inr ⟨_, _, _, rfl, rfl, rfl⟩) rfl (yl_move rfl) ?_
      refine WL.val (.inr ⟨_, _, _, rfl, rfl, rfl⟩) rfl (yl_iao es22 rfl rfl ha (by omega)) ?_
      refine WL.val (.inr ⟨_, _, _, rfl, rfl, rfl⟩) rfl (yl_fa fo65_0 rfl) ?_
      refine WL.val (.inr ⟨_, _, _, rfl, rfl, rfl⟩) rfl (yl_ld 0 na3 rfl rfl (hrow 0 _ rfl)) ?_
      refine WL.val (.inr ⟨_, _, _, rfl, rfl, rfl⟩) rfl (yl_move rfl) ?_
      refine WL.val (.inr ⟨_, _, _, rfl, rfl, rfl⟩) rfl (yl_ne rfl rfl) ?_
      exact Got.intro 10 rfl rfl rfl
    refine WL.val (.inl rfl) rfl (yl_move rfl) ?_
    apply WL.or 7 rfl rfl rfl rfl (.inl rfl) rfl rfl rfl rfl rfl
    ·
      intro hg1
      have hml : k + 1 + i < cur.length := by simp at hg1; omega
      obtain ⟨b, hb⟩ : ∃ b, mk[k + 1 + i]? = some b := ⟨_, List.getElem?_eq_getElem (by omega)⟩
      obtain ⟨qb, qo, ha2, hrow2⟩ := hmk.elt _ _ hb
      have hrow2 : vc O qb (qo + (k + 1 + i) * 1) = some (.bool (mk[k + 1 + i]?.getD true)) := by rw [hb]; exact hrow2
      refine WL.val (.inr ⟨_, _, _, rfl, rfl, rfl⟩) rfl (yl_move rfl) ?_
      refine WL.val (.inr ⟨_, _, _, rfl, rfl, rfl⟩) rfl (yl_nil rfl) ?_
      refine WL.val (.inr ⟨_, _, _, rfl, rfl, rfl⟩) rfl (yl_fa fo70_2 rfl) ?_
      refine WL.val (.inr ⟨_, _, _, rfl, rfl, rfl⟩) rfl (yl_ld 0 na25 rfl rfl (h3)) ?_
      refine WL.val (.inr ⟨_, _, _, rfl, rfl, rfl⟩) rfl (yl_move rfl) ?_
      refine WL.val (.inr ⟨_, _, _, rfl, rfl, rfl⟩) rfl (yl_iao es25 rfl rfl ha2 (by omega)) ?_
      refine WL.val (.inr ⟨_, _, _, rfl, rfl, rfl⟩) rfl (yl_ld 0 na4 rfl rfl (hrow2)) ?_
      exact Got.intro 7 rfl rfl rfl
    refine WL.nil ?_
    refine WE.then_normal ?_
    refine WC.cond rfl (fun hc1 => ?_) (fun hc1 => ?_)
    ·
      rw [okAt_not] at hc1
      have hok : okAt mk cur (k + 1 + i) (os[i]?.getD 0) = false := by rw [hoi]; simpa using hc1
      refine WC.seq ?_
      refine WC.region ?_
      refine WL.val (.inl rfl) rfl (yl_assign rfl) ?_
      refine WL.nil ?_
      refine WE.then_normal ?_
      refine WC.ret ?_
      refine WE.block_ret ?_
      refine WE.then_ret ?_
      refine WE.then_ret ?_
      refine WE.block_ret ?_
      refine WE.then_ret ?_
      refine WE.ret1 rfl rfl fun w' hw => ?_
      exact ⟨by rw [thenB_no hlt hok], hw.fr⟩
    ·
      rw [okAt_not] at hc1
      have hok : okAt mk cur (k + 1 + i) (os[i]?.getD 0) = true := by rw [hoi]; simpa using hc1
      refine WC.skip ?_
      refine WE.block_normal ?_
      refine WE.then_normal ?_
      refine WC.region ?_
      refine WL.val (.inl rfl) rfl (yl_inc rfl rfl rfl (by omega)) ?_
      refine WL.val (.inl rfl) rfl (yl_move rfl) ?_
      refine WL.nil ?_
      exact WE.again (i + 1) (by omega) ⟨by omega, fun j hj => by rcases Nat.lt_succ_iff_lt_or_eq.1 hj with h | rfl; exact hall j h; exact hok⟩ (sc rfl (sc rfl (sc rfl (sc rfl (sc rfl sn))))) (fun _ h => h)
  ·
    have hge : ¬ i < os.length := by simpa using hc0
    refine WC.exit ?_
    refine WE.then_exit ?_
    refine WE.then_exit ?_
    refine WE.block_hit ?_
    refine WE.then_normal ?_
    refine WC.seq ?_
    refine WC.region ?_
    refine WL.val (.inl rfl) rfl (yl_assign rfl) ?_
    refine WL.nil ?_
    refine WE.then_normal ?_
    refine WC.ret ?_
    refine WE.ret1 rfl rfl fun w' hw => ?_
    exact ⟨by rw [thenB_yes fun j hj => hall j (by omega)], hw.fr⟩

theorem lay_any (bh bc : Nat) (am ak : Option Addr) (cm cc ck : Nat) (data : Int) (H K : View) (code cur : List Ins) (mk : List Bool) (k : Nat) (w : World) (hm : Sl rdIns 3 H am cm code) (hl : cur.length = code.length) (hlk : mk.length = code.length) (hmk : Sl rdBool 1 K ak ck mk) (hk : k < code.length) (hcc : code.length ≤ cc) (hcm : cc ≤ 9223372036854775807) (nn : Nat) (x : Ins) (h1 : 1 ≤ nn) (hkn : k + nn ≤ code.length) (hN2 : code.length ≤ 2048) (hw : Ws w [bh, bc] [blk bh (.cells #[.slice am code.length cm, .int .i64 data, .slice (some ⟨bc, 0, none⟩) code.length cc, .slice ak code.length ck] 70 (0, 0)), osl 65 3 (.slice (some ⟨bc, 0, none⟩) code.length cc) code.length ((cur).flatMap Ins.cells)] [H, K] w) :
    Calls Try.prog 72 #[.pointer (some ⟨bh, 0, none⟩), .int .i64 (k : Int), .int .i64 (nn : Int), .agg #[.int .i64 x.op, .int .i64 x.a, .int .i64 x.b]] w fun e w' => e = .returned (.tuple #[]) ∧ Ws w [bh, bc] [blk bh (.cells #[.slice am code.length cm, .int .i64 data, .slice (some ⟨bc, 0, none⟩) code.length cc, .slice ak code.length ck] 70 (0, 0)), osl 65 3 (.slice (some ⟨bc, 0, none⟩) code.length cc) code.length ((layL cur k nn x).flatMap Ins.cells)] [H, K] w' := by
  refine enter Try.func72 rfl 34 rfl rfl ?_
  refine WC.world (W' := Ws w [bh, bc] [blk bh (.cells #[.slice am code.length cm, .int .i64 data, .slice (some ⟨bc, 0, none⟩) code.length cc, .slice ak code.length ck] 70 (0, 0)), osl 65 3 (.slice (some ⟨bc, 0, none⟩) code.length cc) code.length ((cur).flatMap Ins.cells)] [H, K]) (fun _ e => by subst e; exact hw) ?_
  refine WC.seq ?_
  refine WC.region ?_
  refine WL.box (.inl rfl) rfl rfl fun b7 => ?_
  refine WL.nil ?_
  refine WE.then_normal ?_
  refine WC.seq ?_
  refine WC.seq ?_
  refine WC.region ?_
  refine WL.val (.inl rfl) rfl (yl_move rfl) ?_
  refine WL.val (.inl rfl) rfl (yl_subn (a := nn) (b := 1) rfl rfl rfl rfl h1 (by omega)) ?_
  refine WL.val (.inl rfl) rfl (yl_move rfl) ?_
  refine WL.nil ?_
  refine WE.then_normal ?_
  refine WC.block ?_
  refine WC.loopK (ι := Nat) (fun i => [(11, .int .i64 (i : Int))]) [(0, _), (1, _), (2, _), (7, _), (10, _)] (fun i => Ws w [bh, bc] (blk b7 (.cells (Value.agg #[.int .i64 x.op, .int .i64 x.a, .int .i64 x.b]).cells 65 (0, 0)) :: [blk bh (.cells #[.slice am code.length cm, .int .i64 data, .slice (some ⟨bc, 0, none⟩) code.length cc, .slice ak code.length ck] 70 (0, 0)), osl 65 3 (.slice (some ⟨bc, 0, none⟩) code.length cc) code.length ((nops cur k i).flatMap Ins.cells)]) [H, K]) (fun i => i ≤ nn - 1) (fun i => nn - 1 - i) 0 (Nat.zero_le _) (sc rfl (sc rfl (sc rfl (sc rfl (sc rfl (sc rfl sn)))))) (fun _ h => h) ?_
  intro i hi
  refine WC.seq ?_
  refine WC.region ?_
  refine WL.val (.inl rfl) rfl (yl_lt rfl rfl) ?_
  refine WL.nil ?_
  refine WE.then_normal ?_
  refine WC.seq ?_
  refine WC.cond rfl (fun hc0 => ?_) (fun hc0 => ?_)
  ·
    have hlt : i < nn - 1 := by simp at hc0; omega
    have hx : (nops cur k i)[k + i]? = some (atI (nops cur k i) (k + i)) := atI_get (by rw [nops_len]; omega)
    refine WC.skip ?_
    refine WE.then_normal ?_
    refine WC.seq ?_
    refine WC.block ?_
    refine WC.seq ?_
    refine WC.region ?_
    refine WL.val (.inl rfl) rfl (yl_move rfl) ?_
    refine WL.val (.inl rfl) rfl (yl_assign rfl) ?_
    refine WL.nil ?_
    refine WE.then_normal ?_
    refine WC.region ?_
    refine WL.val (.inl rfl) rfl (yl_move rfl) ?_
    refine WL.val (.inl rfl) rfl (yl_nil rfl) ?_
    refine WL.val (.inl rfl) rfl (yl_fa fo70_1 rfl) ?_
    refine WL.val (.inl rfl) rfl (yl_ldk 1 rfl rfl rfl na22) ?_
    refine WL.val (.inl rfl) rfl (yl_move rfl) ?_
    refine WL.val (.inl rfl) rfl (yl_move rfl) ?_
    refine WL.val (.inl rfl) rfl (yl_addn rfl rfl rfl rfl (by omega)) ?_
    refine WL.val (.inl rfl) rfl (yl_build zr65 pl65 rfl rfl) ?_
    refine WL.val (.inl rfl) rfl (yl_iak es22 rfl rfl (by omega)) ?_
    refine WL.storeO 2 _ (.inl rfl) rfl rfl rfl sz65 rfl rfl (ins_le3 hx) (ins_set hx 21 0 0) ?_
    refine WL.nil ?_
    refine WE.block_normal ?_
    refine WE.then_normal ?_
    refine WC.region ?_
    refine WL.val (.inl rfl) rfl (yl_inc rfl rfl rfl (by omega)) ?_
    refine WL.val (.inl rfl) rfl (yl_move rfl) ?_
    refine WL.nil ?_
    exact WE.again (i + 1) (by omega) (by omega) (sc rfl (sc rfl (sc rfl (sc rfl (sc rfl (sc rfl sn)))))) (fun _ h => h)
  ·
    have hie : i = nn - 1 := by simp at hc0; omega
    subst hie
    have hx : (nops cur k (nn - 1))[k + nn - 1]? = some (atI (nops cur k (nn - 1)) (k + nn - 1)) := atI_get (by rw [nops_len]; omega)
    refine WC.exit ?_
    refine WE.then_exit ?_
    refine WE.then_exit ?_
    refine WE.block_hit ?_
    refine WE.then_normal ?_
    refine WC.draws1 2 [(0, true), (1, true), (2, true), (3, true), (4, true), (5, true), (6, true), (7, true), (8, true), (9, true), (10, false)] mixed (by kernel_rfl) (fun _ _ _ d _ h => by cases d <;> exact h) ?_
    refine WD.q rfl (.inl rfl) rfl (fun _ h => by have h := Ws.out 2 h; exact h) (yl_move rfl) ?_
    refine WD.q rfl (.inl rfl) rfl (fun _ h => by have h := Ws.out 2 h; exact h) (yl_nil rfl) ?_
    refine WD.q rfl (.inl rfl) rfl (fun _ h => by have h := Ws.out 2 h; exact h) (yl_fa fo70_1 rfl) ?_
    refine WD.q rfl (.inl rfl) rfl (fun _ h => by have h := Ws.out 2 h; exact h) (yl_ldk 1 rfl rfl rfl na22) ?_
    refine WD.q rfl (.inl rfl) rfl (fun _ h => by have h := Ws.out 2 h; exact h) (yl_move rfl) ?_
    refine WD.q rfl (.inl rfl) rfl (fun _ h => by have h := Ws.out 2 h; exact h) (yl_move rfl) ?_
    refine WD.q rfl (.inl rfl) rfl (fun _ h => by have h := Ws.out 2 h; exact h) (yl_addn rfl rfl rfl rfl (by omega)) ?_
    refine WD.q rfl (.inl rfl) rfl (fun _ h => by have h := Ws.out 2 h; exact h) (yl_subn (a := k + nn) (b := 1) rfl rfl rfl rfl (by omega) (by omega)) ?_
    refine WD.q rfl (.inl rfl) rfl (fun _ h => by have h := Ws.out 2 h; exact h) (yl_ldka 0 rfl rfl ag65 rfl) ?_
    refine WD.q rfl (.inl rfl) rfl (fun _ h => by have h := Ws.out 2 h; exact h) (yl_iak es22 rfl rfl (by omega)) ?_
    refine WD.e rfl (fun _ h => by have h := Ws.out 2 h; exact h) ?_
    refine WL.storeO 2 _ (.inl rfl) rfl rfl rfl sz65 rfl rfl (ins_le3 hx) (ins_set hx x.op x.a x.b) ?_
    refine WL.nil ?_
    refine WE.toD ?_
    refine WD.nil (fun _ h => by have h := Ws.out 2 h; exact h) ?_
    refine WE.end0 rfl fun w' hw => ?_
    exact ⟨rfl, Ws.drop (L := [_]) hw⟩

end Go.Proofs.Ytagoencpeflmlaa
