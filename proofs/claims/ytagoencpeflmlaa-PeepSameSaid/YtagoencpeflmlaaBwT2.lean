/- Walks of the functions of this claim, and plain laws on what they compute; each theorem tells its own conditions. -/
import Derived.Test.YtagoencpeflmlaaBwT1
namespace Go.Proofs.Ytagoencpeflmlaa
open Go.Bw
set_option linter.unusedVariables false
set_option linter.unusedSimpArgs false

def rdBool (H : View) (b o : Nat) (x : Bool) : Prop := vc H b o = some (.bool x)
/-- Does instruction m go to place j, or call just ahead of it? -/
def hit (n : Nat) (code : List Ins) (m j : Nat) : Bool :=
  match code[m]? with
  | some x => (goes x.op && decide (0 ≤ x.a) && decide (x.a < (n : Int)) && x.a.toNat == j) || (x.op == 13 && m + 1 == j)
  | none => false
def mk (code : List Ins) (N k : Nat) : List Bool := (List.range N).map fun j => j == 0 || (List.range k).any fun m => hit code.length code m j
def marks (code : List Ins) : List Bool := mk code code.length code.length
def marksR (code : List Ins) (data : Int) : List Bool × Int := if checkImg code data = 0 then (marks code, 0) else ([], checkImg code data)
theorem mk_len (code : List Ins) (N k : Nat) : (mk code N k).length = N := by simp [mk]
theorem mk_zero (code : List Ins) (N : Nat) : mk code N 0 = (List.replicate N false).set 0 true := by
  apply List.ext_getElem?
  intro j
  rw [List.getElem?_set]
  rcases Nat.lt_or_ge j N with h | h
  · rcases Nat.eq_zero_or_pos j with rfl | hj
    · simp [mk, h]
    · have h1 : ¬ (0 = j) := by omega
      have h2 : (j == 0) = false := by simp; omega
      simp [mk, h, h1, h2]
  · have h1 : (List.replicate N false)[j]? = none := by simp [h]
    have h3 : ¬ j < N := by omega
    simp only [mk, List.length_replicate]
    by_cases h4 : 0 = j
    · subst h4; simp [h3]
    · simp [h4, h3]
theorem set_or (l : List Bool) (a j : Nat) : (l.set a true)[j]? = (l[j]?).map fun b => b || (a == j) := by
  rw [List.getElem?_set]
  by_cases h : a = j
  · subst h
    by_cases h2 : a < l.length
    · simp [h2]
    · simp [h2]
  · have : (a == j) = false := by simp [h]
    simp [h, this]
theorem mk_succ {code : List Ins} {N i : Nat} {x : Ins} (hx : code[i]? = some x) : mk code N (i + 1) =
    (if (x.op == 13) = true then (if (goes x.op && decide (0 ≤ x.a) && decide (x.a < (code.length : Int))) = true then (mk code N i).set x.a.toNat true else mk code N i).set (i + 1) true
      else if (goes x.op && decide (0 ≤ x.a) && decide (x.a < (code.length : Int))) = true then (mk code N i).set x.a.toNat true else mk code N i) := by
  apply List.ext_getElem?
  intro j
  have hh : hit code.length code i j = ((goes x.op && decide (0 ≤ x.a) && decide (x.a < (code.length : Int)) && x.a.toNat == j) || (x.op == 13 && i + 1 == j)) := by simp only [hit, hx]
  have e : (mk code N (i + 1))[j]? = ((mk code N i)[j]?).map fun b => b || hit code.length code i j := by
    simp only [mk, List.getElem?_map]
    by_cases h : j < N
    · simp [h, List.range_succ, Bool.or_assoc]
    · simp [h]
  rw [e, hh]
  generalize (goes x.op && decide (0 ≤ x.a) && decide (x.a < (code.length : Int))) = B
  generalize (x.op == 13) = B2
  cases B <;> cases B2 <;> simp [set_or, Function.comp_def, Bool.or_assoc]
theorem check_len {code : List Ins} {data : Int} (h : checkImg code data = 0) : 0 < code.length ∧ code.length ≤ 2048 := by
  unfold checkImg at h
  split at h
  · cases h
  · rename_i h1
    simp at h1
    omega
theorem mk_take (code : List Ins) (j : Nat) (x : Bool) (h : (marks code)[j]? = some x) : (mk code (code.length + 1) code.length)[j]? = some x := by
  have hj := (List.getElem?_eq_some_iff.1 h).1
  rw [marks, mk_len] at hj
  simp only [marks, mk, List.getElem?_map] at h ⊢
  have h1 : j < code.length + 1 := by omega
  simpa [hj, h1] using h
theorem es25 : elemSz Try.prog 25 = some 1 := by kernel_rfl
theorem ag24 : aggOf Try.prog 24 = some 2 := by kernel_rfl
theorem en28 : Enters Try.prog 28 := enters_of Try.func28 (by kernel_rfl) rfl
theorem el25 : EltOk Try.prog 25 4 (.bool false) 1 1 := eltOk_of (by kernel_rfl)
theorem sz4 : sizeP Try.prog 4 = some 1 := by kernel_rfl
theorem en32 : Enters Try.prog 32 := enters_of Try.func32 (by kernel_rfl) rfl
theorem fo65_1 : fieldOff Try.prog 65 1 = some 1 := by kernel_rfl

theorem marks_any (H : View) (a : Option Addr) (c : Nat) (code : List Ins) (data : Int) (w : World) (hH : Le H w) (hm : Sl rdIns 3 H a c code) :
    Calls Try.prog 9 #[.agg #[.slice a code.length c, .int .i64 data]] w fun e w' => ∃ r : Option Addr × Nat, e = .returned (.tuple #[.slice r.1 (marksR code data).1.length r.2, .int .i64 (marksR code data).2]) ∧ Ext w w' ∧ Sl rdBool 1 (nv w w') r.1 r.2 (marksR code data).1 := by
  have hcap := hm.cap
  have hmax := hm.max
  refine enter Try.func9 rfl 61 rfl rfl ?_
  refine WC.world (W' := Ws w [] [] [H]) (fun _ e => by subst e; exact Ws.init (by simp [hH])) ?_
  refine WC.seq ?_
  refine WC.region ?_
  refine WL.box (.inl rfl) rfl rfl fun b1 => ?_
  refine WL.val (.inl rfl) rfl (yl_assign rfl) ?_
  refine WL.val (.inl rfl) rfl (yl_assign rfl) ?_
  refine WL.nil ?_
  refine WE.then_normal ?_
  refine WC.seq ?_
  refine WC.seq ?_
  refine WC.region ?_
  refine WL.val (.inl rfl) rfl (yl_ldka 0 rfl rfl ag24 rfl) ?_
  refine WL.callp (.inl rfl) rfl en28 rfl (fun w hw => check_any H a c code data _ (hw.vs _ (by simp)) hm) ?_
  refine WL.val (.inl rfl) rfl (yl_assign rfl) ?_
  refine WL.nil ?_
  refine WE.then_normal ?_
  refine WC.seq ?_
  refine WC.region ?_
  refine WL.val (.inl rfl) rfl (yl_move rfl) ?_
  refine WL.val (.inl rfl) rfl (yl_ne rfl rfl) ?_
  refine WL.nil ?_
  refine WE.then_normal ?_
  refine WC.cond rfl (fun hc0 => ?_) (fun hc0 => ?_)
  ·
    have hM : marksR code data = ([], checkImg code data) := by simp at hc0; simp [marksR, hc0]
    refine WC.seq ?_
    refine WC.region ?_
    refine WL.val (.inl rfl) rfl (yl_move rfl) ?_
    refine WL.val (.inl rfl) rfl (yl_assign rfl) ?_
    refine WL.val (.inl rfl) rfl (yl_assign rfl) ?_
    refine WL.nil ?_
    refine WE.then_normal ?_
    refine WC.ret ?_
    refine WE.then_ret ?_
    refine WE.ret2 rfl rfl rfl fun w' hw => ?_
    rw [hM]
    exact ⟨(none, 0), rfl, hw.fr, Sl.nil⟩
  ·
    have hz : checkImg code data = 0 := by simpa using hc0
    have hM : marksR code data = (marks code, 0) := by simp [marksR, hz]
    obtain ⟨hpos, hle⟩ := check_len hz
    refine WC.skip ?_
    refine WE.then_normal ?_
    refine WC.seq ?_
    refine WC.region ?_
    refine WL.val (.inl rfl) rfl (yl_fa fo24_0 rfl) ?_
    refine WL.val (.inl rfl) rfl (yl_ldk 0 rfl rfl rfl na22) ?_
    refine WL.val (.inl rfl) rfl (yl_len es22 rfl) ?_
    refine WL.val (.inl rfl) rfl (yl_inc rfl rfl rfl (by omega)) ?_
    refine WL.make (.inl rfl) rfl el25 rfl rfl (by omega) (by omega) (by omega) (by omega) fun b17 => ?_
    refine WL.reblk 0 (.cells ((List.replicate (code.length + 1) false).map Value.bool).toArray 4 (0, 0)) rfl (by rw [made_one _ rfl]; simp) ?_
    refine WL.val (.inl rfl) rfl (yl_assign rfl) ?_
    refine WL.nil ?_
    refine WE.then_normal ?_
    refine WC.seq ?_
    refine WC.region ?_
    refine WL.val (.inl rfl) rfl (yl_move rfl) ?_
    refine WL.val (.inl rfl) rfl (yl_iak (i := 0) es25 rfl rfl (by omega)) ?_
    refine WL.storeAs 0 (.cells ((mk code (code.length + 1) 0).map Value.bool).toArray 4 (0, 0)) (.inl rfl) rfl rfl rfl sz4 rfl rfl (stOk_map _ _ _ _ (by simp)) (by rw [mk_zero]; exact setIn_map Value.bool _ 4 0 true (by simp)) ?_
    refine WL.nil ?_
    refine WE.then_normal ?_
    refine WC.seq ?_
    refine WC.seq ?_
    refine WC.region ?_
    refine WL.val (.inl rfl) rfl (yl_fa fo24_0 rfl) ?_
    refine WL.val (.inl rfl) rfl (yl_ldk 1 rfl rfl rfl na22) ?_
    refine WL.val (.inl rfl) rfl (yl_len es22 rfl) ?_
    refine WL.val (.inl rfl) rfl (yl_move rfl) ?_
    refine WL.nil ?_
    refine WE.then_normal ?_
    refine WC.block ?_
    refine WC.loopK (ι := Nat) (fun i => [(23, .int .i64 (i : Int))]) [(1, _), (2, _), (3, _), (5, _), (21, _), (22, _)] (fun i => Ws w [] [blk b17 (.cells ((mk code (code.length + 1) i).map Value.bool).toArray 4 (0, 0)), blk b1 (.cells (Value.agg #[.slice a code.length c, .int .i64 data]).cells 24 (0, 0))] [H]) (fun i => i ≤ code.length) (fun i => code.length - i) 0 (Nat.zero_le _) (sc rfl (sc rfl (sc rfl (sc rfl (sc rfl (sc rfl (sc rfl sn))))))) (fun _ h => h) ?_
    intro i hi
    refine WC.seq ?_
    refine WC.region ?_
    refine WL.val (.inl rfl) rfl (yl_lt rfl rfl) ?_
    refine WL.nil ?_
    refine WE.then_normal ?_
    refine WC.seq ?_
    refine WC.cond rfl (fun hc1 => ?_) (fun hc1 => ?_)
    ·
      have hlt : i < code.length := by simpa using hc1
      obtain ⟨x, hxi⟩ : ∃ x, code[i]? = some x := ⟨_, List.getElem?_eq_getElem hlt⟩
      obtain ⟨pb, po, ha, hrow⟩ := hm.elt i x hxi
      have hrow : RdC H pb (po + i * 3) x.cells := hrow
      refine WC.skip ?_
      refine WE.then_normal ?_
      refine WC.seq ?_
      refine WC.block ?_
      refine WC.seq ?_
      refine WC.region ?_
      refine WL.val (.inl rfl) rfl (yl_move rfl) ?_
      refine WL.val (.inl rfl) rfl (yl_iao es22 rfl rfl (by assumption) (by omega)) ?_
      refine WL.val (.inl rfl) rfl (yl_lda 0 ag65 rfl rfl rfl (hrow)) ?_
      refine WL.alloc (.inl rfl) rfl zr65 fun b7 => ?_
      refine WL.val (.inl rfl) rfl (yl_assign rfl) ?_
      refine WL.store 0 (.inl rfl) rfl rfl rfl sz65 rfl rfl rfl ?_
      refine WL.nil ?_
      refine WE.then_normal ?_
      refine WC.seq ?_
      refine WC.seq ?_
      refine WC.region ?_
      refine WL.val (.inl rfl) rfl (yl_fa fo65_0 rfl) ?_
      refine WL.val (.inl rfl) rfl (yl_ldk 0 rfl rfl rfl na3) ?_
      refine WL.callp (.inl rfl) rfl en32 rfl (fun w hw => goes_any _ w) ?_
      refine WL.val (.inl rfl) rfl (yl_move rfl) ?_
      apply WL.and 3 rfl rfl rfl rfl (.inl rfl) rfl rfl rfl rfl rfl
      ·
        intro hg0
        refine WL.val (.inr ⟨_, _, _, rfl, rfl, rfl⟩) rfl (yl_fa fo65_1 rfl) ?_
        refine WL.val (.inr ⟨_, _, _, rfl, rfl, rfl⟩) rfl (yl_ldk 0 rfl rfl rfl na3) ?_
        refine WL.val (.inr ⟨_, _, _, rfl, rfl, rfl⟩) rfl (yl_ge rfl rfl) ?_
        exact Got.intro 3 rfl rfl rfl
      refine WL.val (.inl rfl) rfl (yl_move rfl) ?_
      apply WL.and 6 rfl rfl rfl rfl (.inl rfl) rfl rfl rfl rfl rfl
      ·
        intro hg1
        refine WL.val (.inr ⟨_, _, _, rfl, rfl, rfl⟩) rfl (yl_fa fo65_1 rfl) ?_
        refine WL.val (.inr ⟨_, _, _, rfl, rfl, rfl⟩) rfl (yl_ldk 0 rfl rfl rfl na3) ?_
        refine WL.val (.inr ⟨_, _, _, rfl, rfl, rfl⟩) rfl (yl_fa fo24_0 rfl) ?_
        refine WL.val (.inr ⟨_, _, _, rfl, rfl, rfl⟩) rfl (yl_ldk 2 rfl rfl rfl na22) ?_
        refine WL.val (.inr ⟨_, _, _, rfl, rfl, rfl⟩) rfl (yl_len es22 rfl) ?_
        refine WL.val (.inr ⟨_, _, _, rfl, rfl, rfl⟩) rfl (yl_lt rfl rfl) ?_
        exact Got.intro 6 rfl rfl rfl
      refine WL.nil ?_
      refine WE.then_normal ?_
      refine WC.cond rfl (fun hc2 => ?_) (fun hc2 => ?_)
      ·
        have hx2 : (goes x.op = true ∧ 0 ≤ x.a) ∧ x.a < code.length := by simpa using hc2
        obtain ⟨⟨_, hx0⟩, hx1⟩ := hx2
        refine WC.region ?_
        refine WL.val (.inl rfl) rfl (yl_move rfl) ?_
        refine WL.val (.inl rfl) rfl (yl_fa fo65_1 rfl) ?_
        refine WL.val (.inl rfl) rfl (yl_ldk 0 rfl rfl rfl na3) ?_
        refine WL.val (.inl rfl) rfl (yl_ia es25 rfl rfl hx0 (by omega)) ?_
        refine WL.storeAs 1 _ (.inl rfl) rfl rfl rfl sz4 rfl rfl (stOk_map _ _ _ _ (by simp [mk_len]; omega)) (setIn_map Value.bool _ 4 _ true (by simp [mk_len]; omega)) ?_
        refine WL.nil ?_
        refine WE.then_normal ?_
        refine WC.seq ?_
        refine WC.region ?_
        refine WL.val (.inl rfl) rfl (yl_fa fo65_0 rfl) ?_
        refine WL.val (.inl rfl) rfl (yl_ldk 0 rfl rfl rfl na3) ?_
        refine WL.val (.inl rfl) rfl (yl_eq rfl rfl) ?_
        refine WL.nil ?_
        refine WE.then_normal ?_
        refine WC.cond rfl (fun hc3 => ?_) (fun hc3 => ?_)
        ·
          refine WC.region ?_
          refine WL.val (.inl rfl) rfl (yl_move rfl) ?_
          refine WL.val (.inl rfl) rfl (yl_move rfl) ?_
          refine WL.val (.inl rfl) rfl (yl_inc rfl rfl rfl (by omega)) ?_
          refine WL.val (.inl rfl) rfl (yl_iak es25 rfl rfl (by omega)) ?_
          refine WL.storeAs 1 _ (.inl rfl) rfl rfl rfl sz4 rfl rfl (stOk_map _ _ _ _ (by simp [mk_len]; omega)) (setIn_map Value.bool _ 4 _ true (by simp [mk_len]; omega)) ?_
          refine WL.nil ?_
          refine WE.block_normal ?_
          refine WE.then_normal ?_
          refine WC.region ?_
          refine WL.val (.inl rfl) rfl (yl_inc rfl rfl rfl (by omega)) ?_
          refine WL.val (.inl rfl) rfl (yl_move rfl) ?_
          refine WL.nil ?_
          exact WE.again (i + 1) (by omega) (by omega) (sc rfl (sc rfl (sc rfl (sc rfl (sc rfl (sc rfl (sc rfl sn))))))) (fun _ h => by
            have e := mk_succ (N := code.length + 1) hxi
            simp only [hc2, hc3, if_true, Bool.false_eq_true, if_false] at e
            have h := Ws.drop (L := [_]) h
            rw [e]
            exact h)
        ·
          refine WC.skip ?_
          refine WE.block_normal ?_
          refine WE.then_normal ?_
          refine WC.region ?_
          refine WL.val (.inl rfl) rfl (yl_inc rfl rfl rfl (by omega)) ?_
          refine WL.val (.inl rfl) rfl (yl_move rfl) ?_
          refine WL.nil ?_
          exact WE.again (i + 1) (by omega) (by omega) (sc rfl (sc rfl (sc rfl (sc rfl (sc rfl (sc rfl (sc rfl sn))))))) (fun _ h => by
            have e := mk_succ (N := code.length + 1) hxi
            simp only [hc2, hc3, if_true, Bool.false_eq_true, if_false] at e
            have h := Ws.drop (L := [_]) h
            rw [e]
            exact h)
      ·
        refine WC.skip ?_
        refine WE.then_normal ?_
        refine WC.seq ?_
        refine WC.region ?_
        refine WL.val (.inl rfl) rfl (yl_fa fo65_0 rfl) ?_
        refine WL.val (.inl rfl) rfl (yl_ldk 0 rfl rfl rfl na3) ?_
        refine WL.val (.inl rfl) rfl (yl_eq rfl rfl) ?_
        refine WL.nil ?_
        refine WE.then_normal ?_
        refine WC.cond rfl (fun hc3 => ?_) (fun hc3 => ?_)
        ·
          refine WC.region ?_
          refine WL.val (.inl rfl) rfl (yl_move rfl) ?_
          refine WL.val (.inl rfl) rfl (yl_move rfl) ?_
          refine WL.val (.inl rfl) rfl (yl_inc rfl rfl rfl (by omega)) ?_
          refine WL.val (.inl rfl) rfl (yl_iak es25 rfl rfl (by omega)) ?_
          refine WL.storeAs 1 _ (.inl rfl) rfl rfl rfl sz4 rfl rfl (stOk_map _ _ _ _ (by simp [mk_len]; omega)) (setIn_map Value.bool _ 4 _ true (by simp [mk_len]; omega)) ?_
          refine WL.nil ?_
          refine WE.block_normal ?_
          refine WE.then_normal ?_
          refine WC.region ?_
          refine WL.val (.inl rfl) rfl (yl_inc rfl rfl rfl (by omega)) ?_
          refine WL.val (.inl rfl) rfl (yl_move rfl) ?_
          refine WL.nil ?_
          exact WE.again (i + 1) (by omega) (by omega) (sc rfl (sc rfl (sc rfl (sc rfl (sc rfl (sc rfl (sc rfl sn))))))) (fun _ h => by
            have e := mk_succ (N := code.length + 1) hxi
            simp only [hc2, hc3, if_true, Bool.false_eq_true, if_false] at e
            have h := Ws.drop (L := [_]) h
            rw [e]
            exact h)
        ·
          refine WC.skip ?_
          refine WE.block_normal ?_
          refine WE.then_normal ?_
          refine WC.region ?_
          refine WL.val (.inl rfl) rfl (yl_inc rfl rfl rfl (by omega)) ?_
          refine WL.val (.inl rfl) rfl (yl_move rfl) ?_
          refine WL.nil ?_
          exact WE.again (i + 1) (by omega) (by omega) (sc rfl (sc rfl (sc rfl (sc rfl (sc rfl (sc rfl (sc rfl sn))))))) (fun _ h => by
            have e := mk_succ (N := code.length + 1) hxi
            simp only [hc2, hc3, if_true, Bool.false_eq_true, if_false] at e
            have h := Ws.drop (L := [_]) h
            rw [e]
            exact h)
    ·
      have hge : ¬ i < code.length := by simpa using hc1
      have hie : i = code.length := by omega
      subst hie
      refine WC.exit ?_
      refine WE.then_exit ?_
      refine WE.then_exit ?_
      refine WE.block_hit ?_
      refine WE.then_normal ?_
      refine WC.seq ?_
      refine WC.region ?_
      refine WL.val (.inl rfl) rfl (yl_move rfl) ?_
      refine WL.val (.inl rfl) rfl (yl_fa fo24_0 rfl) ?_
      refine WL.val (.inl rfl) rfl (yl_ldk 1 rfl rfl rfl na22) ?_
      refine WL.val (.inl rfl) rfl (yl_len es22 rfl) ?_
      refine WL.val (.inl rfl) rfl (yl_slhi es25 rfl (by simp) rfl (by omega) (by omega)) ?_
      refine WL.val (.inl rfl) rfl (yl_assign rfl) ?_
      refine WL.val (.inl rfl) rfl (yl_assign rfl) ?_
      refine WL.nil ?_
      refine WE.then_normal ?_
      refine WC.ret ?_
      refine WE.ret2 rfl rfl rfl fun w' hw => ?_
      rw [hM]
      refine ⟨(some ⟨b17, 0, none⟩, ((code.length + 1 : Nat) : Int).toNat), ?_, hw.fr, ?_⟩
      · simp [marks, mk_len]
      · exact hw.sl_map 0 rfl (fun _ _ _ _ h => h) (by simp [marks, mk_len]) (by omega) (fun j x hx => mk_take code j x hx)

end Go.Proofs.Ytagoencpeflmlaa
