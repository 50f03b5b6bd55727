/- Walks of the peepholes and of what the law of this claim calls, and plain laws on what they compute; each theorem tells its own conditions. -/
import Derived.Test.YtagoencpeflmlaaBwP5
namespace Go.Proofs.Ytagoencpeflmlaa
open Go.Bw
set_option linter.unusedVariables false
set_option linter.unusedSimpArgs false

def stepL (mk : List Bool) (code cur : List Ins) (k : Nat) : List Ins :=
  if ((atI cur k).op == 11 || (atI cur k).op == 12) = true then threadL code cur k else if ((atI cur k).op == 1) = true then pushedL mk cur k else cur
def peepN (mk : List Bool) (code : List Ins) : Nat → List Ins
  | 0 => code
  | i + 1 => stepL mk code (peepN mk code i) i
theorem stepL_len (mk : List Bool) (code cur : List Ins) (k : Nat) : (stepL mk code cur k).length = cur.length := by
  unfold stepL
  repeat' split
  all_goals simp only [threadL_len, pushedL_len]
theorem peepN_len (mk : List Bool) (code : List Ins) : ∀ i, (peepN mk code i).length = code.length
  | 0 => rfl
  | i + 1 => by rw [peepN, stepL_len, peepN_len mk code i]
def peepL (code : List Ins) : List Ins := peepN (marks code) code code.length
def peepR (code : List Ins) (data : Int) : List Ins × Int × Int := if checkImg code data = 0 then (peepL code, data, 0) else ([], 0, checkImg code data)
theorem en70 : Enters Try.prog 70 := enters_of Try.func70 (by kernel_rfl) rfl
theorem en69 : Enters Try.prog 69 := enters_of Try.func69 (by kernel_rfl) rfl
theorem en72 : Enters Try.prog 72 := enters_of Try.func72 (by kernel_rfl) rfl
theorem en73 : Enters Try.prog 73 := enters_of Try.func73 (by kernel_rfl) rfl
theorem en9 : Enters Try.prog 9 := enters_of Try.func9 (by kernel_rfl) rfl
theorem en33 : Enters Try.prog 33 := enters_of Try.func33 (by kernel_rfl) rfl
theorem pl70 : placesP Try.prog 70 = some [(0, 2), (2, 1), (3, 1)] := by kernel_rfl
theorem zr70 : zeroOf Try.prog 70 = some (.agg #[.slice none 0 0, .int .i64 0, .slice none 0 0, .slice none 0 0]) := by kernel_rfl
theorem en34 : Enters Try.prog 34 := enters_of Try.func34 (by kernel_rfl) rfl
theorem en35 : Enters Try.prog 35 := enters_of Try.func35 (by kernel_rfl) rfl

theorem pushed_any (bh bc : Nat) (am ak : Option Addr) (cm cc ck : Nat) (data : Int) (H K : View) (code cur : List Ins) (mk : List Bool) (k : Nat) (w : World) (hm : Sl rdIns 3 H am cm code) (hl : cur.length = code.length) (hlk : mk.length = code.length) (hmk : Sl rdBool 1 K ak ck mk) (hk : k < code.length) (hcc : code.length ≤ cc) (hcm : cc ≤ 9223372036854775807) (hN2 : code.length ≤ 2048) (hw : Ws w [bh, bc] [blk bh (.cells #[.slice am code.length cm, .int .i64 data, .slice (some ⟨bc, 0, none⟩) code.length cc, .slice ak code.length ck] 70 (0, 0)), osl 65 3 (.slice (some ⟨bc, 0, none⟩) code.length cc) code.length ((cur).flatMap Ins.cells)] [H, K] w) :
    Calls Try.prog 35 #[.pointer (some ⟨bh, 0, none⟩), .int .i64 (k : Int)] w fun e w' => e = .returned (.tuple #[]) ∧ Ws w [bh, bc] [blk bh (.cells #[.slice am code.length cm, .int .i64 data, .slice (some ⟨bc, 0, none⟩) code.length cc, .slice ak code.length ck] 70 (0, 0)), osl 65 3 (.slice (some ⟨bc, 0, none⟩) code.length cc) code.length ((pushedL mk cur k).flatMap Ins.cells)] [H, K] w' := by
  have hx : cur[k]? = some (atI cur k) := atI_get (by omega)
  refine enter Try.func35 rfl 111 rfl rfl ?_
  refine WC.world (W' := Ws w [bh, bc] [blk bh (.cells #[.slice am code.length cm, .int .i64 data, .slice (some ⟨bc, 0, none⟩) code.length cc, .slice ak code.length ck] 70 (0, 0)), osl 65 3 (.slice (some ⟨bc, 0, none⟩) code.length cc) code.length ((cur).flatMap Ins.cells)] [H, K]) (fun _ e => by subst e; exact hw) ?_
  refine WC.seq ?_
  refine WC.region ?_
  refine WL.val (.inl rfl) rfl (yl_move rfl) ?_
  refine WL.val (.inl rfl) rfl (yl_nil rfl) ?_
  refine WL.val (.inl rfl) rfl (yl_fa fo70_1 rfl) ?_
  refine WL.val (.inl rfl) rfl (yl_ldk 0 rfl rfl rfl na22) ?_
  refine WL.val (.inl rfl) rfl (yl_move rfl) ?_
  refine WL.val (.inl rfl) rfl (yl_iak es22 rfl rfl (by omega)) ?_
  refine WL.val (.inl rfl) rfl (yl_fa fo65_1 rfl) ?_
  refine WL.val (.inl rfl) rfl (yl_ldo 1 rfl rfl na3 (ins_a hx)) ?_
  refine WL.val (.inl rfl) rfl (yl_assign rfl) ?_
  refine WL.nil ?_
  refine WE.then_normal ?_
  refine WC.seq ?_
  refine WC.region ?_
  refine WL.val (.inl rfl) rfl (yl_assign rfl) ?_
  refine WL.nil ?_
  refine WE.then_normal ?_
  refine WC.seq ?_
  refine WC.seq ?_
  refine WC.region ?_
  refine WL.val (.inl rfl) rfl (yl_move rfl) ?_
  refine WL.val (.inl rfl) rfl (yl_move rfl) ?_
  refine WL.bslice (.inl rfl) rfl el50 rfl rfl rfl fun b18 => ?_
  refine WL.callp (.inl rfl) rfl en70 rfl (fun w hw => then_any (hv w) bh code.length _ _ _ cc ck 2 cur mk [1, 10] k w (hv_le w) hl hN2 (hw.hvb 1 rfl rfl) (hw.hvb 1 rfl rfl) (hv_ins hw 2 rfl (by omega) hcm) (hmk.mono fun _ _ _ h => (hv_of (hw.vs K (by simp))).cell h) hlk (hv_ints hw 0 rfl (by decide) (by decide) (by intro j x hj; match j, hj with | 0, hj => cases hj; rfl | 1, hj => cases hj; rfl)) (by decide) hk) ?_
  refine WL.nil ?_
  refine WE.then_normal ?_
  refine WC.cond rfl (fun hc0 => ?_) (fun hc0 => ?_)
  ·
    have hlt := thenB_lt hc0 (i := 1) (by decide)
    have hx1 : cur[k + 1]? = some (atI cur (k + 1)) := atI_get (by omega)
    have hx2 : cur[k + 2]? = some (atI cur (k + 2)) := atI_get (by omega)
    refine WC.seq ?_
    refine WC.seq ?_
    refine WC.draws0 [(0, true), (1, true), (2, true), (3, true), (4, true), (5, true), (6, true), (7, true), (8, true), (9, true), (10, true), (11, true), (12, true), (13, true), (14, true), (15, true), (16, true), (17, true), (18, true), (19, false), (20, true), (21, true), (22, true), (23, true), (24, true)] mixed (by kernel_rfl) (fun _ _ _ d _ h => by cases d <;> exact h) ?_
    refine WD.q rfl (.inl rfl) rfl (fun _ h => h) (yl_move rfl) ?_
    refine WD.q rfl (.inl rfl) rfl (fun _ h => h) (yl_nil rfl) ?_
    refine WD.q rfl (.inl rfl) rfl (fun _ h => h) (yl_fa fo70_1 rfl) ?_
    refine WD.q rfl (.inl rfl) rfl (fun _ h => h) (yl_ldk 1 rfl rfl rfl na22) ?_
    refine WD.q rfl (.inl rfl) rfl (fun _ h => h) (yl_move rfl) ?_
    refine WD.q rfl (.inl rfl) rfl (fun _ h => h) (yl_addn (a := k) (b := 2) rfl rfl rfl rfl (by omega)) ?_
    refine WD.q rfl (.inl rfl) rfl (fun _ h => h) (yl_iak es22 rfl rfl (by omega)) ?_
    refine WD.q rfl (.inl rfl) rfl (fun _ h => h) (yl_fa fo65_1 rfl) ?_
    refine WD.q rfl (.inl rfl) rfl (fun _ h => h) (yl_ldo 2 rfl rfl na3 (ins_a hx2)) ?_
    refine WD.q rfl (.inl rfl) rfl (fun _ h => h) (yl_move rfl) ?_
    refine WD.q rfl (.inl rfl) rfl (fun _ h => h) (yl_move rfl) ?_
    refine WD.q rfl (.inl rfl) rfl (fun _ h => h) (yl_nil rfl) ?_
    refine WD.q rfl (.inl rfl) rfl (fun _ h => h) (yl_fa fo70_1 rfl) ?_
    refine WD.q rfl (.inl rfl) rfl (fun _ h => h) (yl_ldk 1 rfl rfl rfl na22) ?_
    refine WD.q rfl (.inl rfl) rfl (fun _ h => h) (yl_move rfl) ?_
    refine WD.q rfl (.inl rfl) rfl (fun _ h => h) (yl_inc rfl rfl rfl (by omega)) ?_
    refine WD.q rfl (.inl rfl) rfl (fun _ h => h) (yl_iak es22 rfl rfl (by omega)) ?_
    refine WD.q rfl (.inl rfl) rfl (fun _ h => h) (yl_fa fo65_1 rfl) ?_
    refine WD.q rfl (.inl rfl) rfl (fun _ h => h) (yl_ldo 2 rfl rfl na3 (ins_a hx1)) ?_
    refine WD.e rfl (fun _ h => h) ?_
    refine WL.callp (.inl rfl) rfl en71 rfl (fun w hw => mmath_any _ _ _ w) ?_
    refine WL.nil ?_
    refine WE.toD ?_
    refine WD.q rfl (.inl rfl) rfl (fun _ h => h) (yl_move rfl) ?_
    refine WD.q rfl (.inl rfl) rfl (fun _ h => h) (yl_extract rfl rfl) ?_
    refine WD.q rfl (.inl rfl) rfl (fun _ h => h) (yl_extract rfl rfl) ?_
    refine WD.q rfl (.inl rfl) rfl (fun _ h => h) (yl_assign rfl) ?_
    refine WD.q rfl (.inl rfl) rfl (fun _ h => h) (yl_assign rfl) ?_
    refine WD.nil (fun _ h => h) ?_
    refine WE.then_normal ?_
    refine WC.seq ?_
    refine WC.region ?_
    refine WL.val (.inl rfl) rfl (yl_move rfl) ?_
    refine WL.nil ?_
    refine WE.then_normal ?_
    refine WC.cond rfl (fun hc1 => ?_) (fun hc1 => ?_)
    ·
      refine WC.region ?_
      refine WL.val (.inl rfl) rfl (yl_move rfl) ?_
      refine WL.val (.inl rfl) rfl (yl_move rfl) ?_
      refine WL.val (.inl rfl) rfl (yl_move rfl) ?_
      refine WL.val (.inl rfl) rfl (yl_move rfl) ?_
      refine WL.callvp (.inl rfl) rfl en69 rfl rfl (fun w hw => pushed1_any _ _) ?_
      refine WL.front 2 rfl ?_
      refine WL.front 2 rfl ?_
      refine WL.callw0 [_, _] _ [_, _] (.inl rfl) rfl en72 rfl rfl [H, K] (by simp) (fun w hw => lay_any bh bc am ak cm cc ck data H K code cur mk k w hm hl hlk hmk hk hcc hcm 3 ⟨1, (mmath (atI cur (k + 2)).a (atI cur k).a (atI cur (k + 1)).a).1, 0⟩ (by decide) (by omega) hN2 hw) ?_
      refine WL.nil ?_
      refine WE.then_normal ?_
      refine WC.ret ?_
      refine WE.then_ret ?_
      refine WE.ret0 rfl fun w' hw => ?_
      refine ⟨rfl, ?_⟩
      simp only [pushedL, hc0, hc1, Bool.false_eq_true, if_false, if_true]
      exact Ws.keep (L := [_, _]) hw
    ·
      refine WC.skip ?_
      refine WE.then_normal ?_
      refine WC.ret ?_
      refine WE.then_ret ?_
      refine WE.ret0 rfl fun w' hw => ?_
      refine ⟨rfl, ?_⟩
      simp only [pushedL, hc0, hc1, Bool.false_eq_true, if_false, if_true]
      exact Ws.drop (L := [_]) hw
  ·
    refine WC.skip ?_
    refine WE.then_normal ?_
    refine WC.block ?_
    refine WC.seq ?_
    refine WC.region ?_
    refine WL.val (.inl rfl) rfl (yl_move rfl) ?_
    refine WL.val (.inl rfl) rfl (yl_move rfl) ?_
    refine WL.bslice (.inl rfl) rfl el50 rfl rfl rfl fun b53 => ?_
    refine WL.callp (.inl rfl) rfl en70 rfl (fun w hw => then_any (hv w) bh code.length _ _ _ cc ck 1 cur mk [12] k w (hv_le w) hl hN2 (hw.hvb 2 rfl rfl) (hw.hvb 2 rfl rfl) (hv_ins hw 3 rfl (by omega) hcm) (hmk.mono fun _ _ _ h => (hv_of (hw.vs K (by simp))).cell h) hlk (hv_ints hw 0 rfl (by decide) (by decide) (by intro j x hj; match j, hj with | 0, hj => cases hj; rfl)) (by decide) hk) ?_
    refine WL.val (.inl rfl) rfl (yl_move rfl) ?_
    apply WL.and 2 rfl rfl rfl rfl (.inl rfl) rfl rfl rfl rfl rfl
    ·
      intro hg0
      refine WL.val (.inr ⟨_, _, _, rfl, rfl, rfl⟩) rfl (yl_move rfl) ?_
      refine WL.val (.inr ⟨_, _, _, rfl, rfl, rfl⟩) rfl (yl_eq rfl rfl) ?_
      exact Got.intro 2 rfl rfl rfl
    refine WL.val (.inl rfl) rfl (yl_assign rfl) ?_
    refine WL.nil ?_
    refine WE.then_normal ?_
    refine WC.cond rfl (fun hc2 => ?_) (fun hc2 => ?_)
    ·
      have hc2a := (bool_split hc2).1
      have hlt := thenB_lt hc2a (i := 0) (by decide)
      have hx1 : cur[k + 1]? = some (atI cur (k + 1)) := atI_get (by omega)
      refine WC.region ?_
      refine WL.val (.inl rfl) rfl (yl_move rfl) ?_
      refine WL.val (.inl rfl) rfl (yl_move rfl) ?_
      refine WL.val (.inl rfl) rfl (yl_move rfl) ?_
      refine WL.val (.inl rfl) rfl (yl_nil rfl) ?_
      refine WL.val (.inl rfl) rfl (yl_fa fo70_1 rfl) ?_
      refine WL.val (.inl rfl) rfl (yl_ldk 2 rfl rfl rfl na22) ?_
      refine WL.val (.inl rfl) rfl (yl_move rfl) ?_
      refine WL.val (.inl rfl) rfl (yl_inc rfl rfl rfl (by omega)) ?_
      refine WL.val (.inl rfl) rfl (yl_iak es22 rfl rfl (by omega)) ?_
      refine WL.val (.inl rfl) rfl (yl_fa fo65_1 rfl) ?_
      refine WL.val (.inl rfl) rfl (yl_ldo 3 rfl rfl na3 (ins_a hx1)) ?_
      refine WL.val (.inl rfl) rfl (yl_build zr65 pl65 rfl rfl) ?_
      refine WL.front 3 rfl ?_
      refine WL.front 3 rfl ?_
      refine WL.callw0 [_, _] _ [_, _] (.inl rfl) rfl en72 rfl rfl [H, K] (by simp) (fun w hw => lay_any bh bc am ak cm cc ck data H K code cur mk k w hm hl hlk hmk hk hcc hcm 2 ⟨11, (atI cur (k + 1)).a, 0⟩ (by decide) (by omega) hN2 hw) ?_
      refine WL.nil ?_
      refine WE.block_normal ?_
      refine WE.end0 rfl fun w' hw => ?_
      refine ⟨rfl, ?_⟩
      simp only [pushedL, hc0, hc2, Bool.false_eq_true, if_false, if_true]
      exact Ws.keep (L := [_, _]) hw
    ·
      refine WC.seq ?_
      refine WC.region ?_
      refine WL.val (.inl rfl) rfl (yl_move rfl) ?_
      refine WL.val (.inl rfl) rfl (yl_move rfl) ?_
      refine WL.bslice (.inl rfl) rfl el50 rfl rfl rfl fun b75 => ?_
      refine WL.callp (.inl rfl) rfl en70 rfl (fun w hw => then_any (hv w) bh code.length _ _ _ cc ck 1 cur mk [9] k w (hv_le w) hl hN2 (hw.hvb 3 rfl rfl) (hw.hvb 3 rfl rfl) (hv_ins hw 4 rfl (by omega) hcm) (hmk.mono fun _ _ _ h => (hv_of (hw.vs K (by simp))).cell h) hlk (hv_ints hw 0 rfl (by decide) (by decide) (by intro j x hj; match j, hj with | 0, hj => cases hj; rfl)) (by decide) hk) ?_
      refine WL.val (.inl rfl) rfl (yl_assign rfl) ?_
      refine WL.nil ?_
      refine WE.then_normal ?_
      refine WC.cond rfl (fun hc3 => ?_) (fun hc3 => ?_)
      ·
        have hlt := thenB_lt hc3 (i := 0) (by decide)
        refine WC.region ?_
        refine WL.val (.inl rfl) rfl (yl_move rfl) ?_
        refine WL.val (.inl rfl) rfl (yl_move rfl) ?_
        refine WL.val (.inl rfl) rfl (yl_move rfl) ?_
        refine WL.val (.inl rfl) rfl (yl_move rfl) ?_
        refine WL.val (.inl rfl) rfl (yl_eq rfl rfl) ?_
        refine WL.callp (.inl rfl) rfl en73 rfl (fun w hw => pbit_any _ w) ?_
        refine WL.callvp (.inl rfl) rfl en69 rfl rfl (fun w hw => pushed1_any _ _) ?_
        refine WL.front 4 rfl ?_
        refine WL.front 4 rfl ?_
        refine WL.callw0 [_, _] _ [_, _] (.inl rfl) rfl en72 rfl rfl [H, K] (by simp) (fun w hw => lay_any bh bc am ak cm cc ck data H K code cur mk k w hm hl hlk hmk hk hcc hcm 2 ⟨1, bitI ((atI cur k).a == 0), 0⟩ (by decide) (by omega) hN2 hw) ?_
        refine WL.nil ?_
        refine WE.block_normal ?_
        refine WE.end0 rfl fun w' hw => ?_
        refine ⟨rfl, ?_⟩
        simp only [pushedL, hc0, hc2, hc3, Bool.false_eq_true, if_false, if_true]
        exact Ws.keep (L := [_, _]) hw
      ·
        refine WC.seq ?_
        refine WC.region ?_
        refine WL.val (.inl rfl) rfl (yl_move rfl) ?_
        refine WL.val (.inl rfl) rfl (yl_move rfl) ?_
        refine WL.bslice (.inl rfl) rfl el50 rfl rfl rfl fun b88 => ?_
        refine WL.callp (.inl rfl) rfl en70 rfl (fun w hw => then_any (hv w) bh code.length _ _ _ cc ck 1 cur mk [22] k w (hv_le w) hl hN2 (hw.hvb 4 rfl rfl) (hw.hvb 4 rfl rfl) (hv_ins hw 5 rfl (by omega) hcm) (hmk.mono fun _ _ _ h => (hv_of (hw.vs K (by simp))).cell h) hlk (hv_ints hw 0 rfl (by decide) (by decide) (by intro j x hj; match j, hj with | 0, hj => cases hj; rfl)) (by decide) hk) ?_
        refine WL.val (.inl rfl) rfl (yl_assign rfl) ?_
        refine WL.nil ?_
        refine WE.then_normal ?_
        refine WC.cond rfl (fun hc4 => ?_) (fun hc4 => ?_)
        ·
          have hlt := thenB_lt hc4 (i := 0) (by decide)
          refine WC.region ?_
          refine WL.val (.inl rfl) rfl (yl_move rfl) ?_
          refine WL.val (.inl rfl) rfl (yl_move rfl) ?_
          refine WL.val (.inl rfl) rfl (yl_move rfl) ?_
          refine WL.val (.inl rfl) rfl (yl_move rfl) ?_
          refine WL.val (.inl rfl) rfl (yl_ne rfl rfl) ?_
          refine WL.callp (.inl rfl) rfl en73 rfl (fun w hw => pbit_any _ w) ?_
          refine WL.callvp (.inl rfl) rfl en69 rfl rfl (fun w hw => pushed1_any _ _) ?_
          refine WL.front 5 rfl ?_
          refine WL.front 5 rfl ?_
          refine WL.callw0 [_, _] _ [_, _] (.inl rfl) rfl en72 rfl rfl [H, K] (by simp) (fun w hw => lay_any bh bc am ak cm cc ck data H K code cur mk k w hm hl hlk hmk hk hcc hcm 2 ⟨1, bitI ((atI cur k).a != 0), 0⟩ (by decide) (by omega) hN2 hw) ?_
          refine WL.nil ?_
          refine WE.block_normal ?_
          refine WE.end0 rfl fun w' hw => ?_
          refine ⟨rfl, ?_⟩
          simp only [pushedL, hc0, hc2, hc3, hc4, Bool.false_eq_true, if_false, if_true]
          exact Ws.keep (L := [_, _]) hw
        ·
          refine WC.seq ?_
          refine WC.seq ?_
          refine WC.region ?_
          refine WL.val (.inl rfl) rfl (yl_move rfl) ?_
          refine WL.val (.inl rfl) rfl (yl_move rfl) ?_
          refine WL.bslice (.inl rfl) rfl el50 rfl rfl rfl fun b101 => ?_
          refine WL.callp (.inl rfl) rfl en70 rfl (fun w hw => then_any (hv w) bh code.length _ _ _ cc ck 1 cur mk [12] k w (hv_le w) hl hN2 (hw.hvb 5 rfl rfl) (hw.hvb 5 rfl rfl) (hv_ins hw 6 rfl (by omega) hcm) (hmk.mono fun _ _ _ h => (hv_of (hw.vs K (by simp))).cell h) hlk (hv_ints hw 0 rfl (by decide) (by decide) (by intro j x hj; match j, hj with | 0, hj => cases hj; rfl)) (by decide) hk) ?_
          refine WL.val (.inl rfl) rfl (yl_assign rfl) ?_
          refine WL.nil ?_
          refine WE.then_normal ?_
          refine WC.cond rfl (fun hc5 => ?_) (fun hc5 => ?_)
          ·
            refine WC.skip ?_
            refine WE.then_normal ?_
            refine WC.cond rfl (fun hc6 => ?_) (fun hc6 => ?_)
            ·
              have hlt := thenB_lt hc6 (i := 0) (by decide)
              refine WC.region ?_
              refine WL.val (.inl rfl) rfl (yl_move rfl) ?_
              refine WL.val (.inl rfl) rfl (yl_move rfl) ?_
              refine WL.val (.inl rfl) rfl (yl_build zr65 pl65 rfl rfl) ?_
              refine WL.front 6 rfl ?_
              refine WL.front 6 rfl ?_
              refine WL.callw0 [_, _] _ [_, _] (.inl rfl) rfl en72 rfl rfl [H, K] (by simp) (fun w hw => lay_any bh bc am ak cm cc ck data H K code cur mk k w hm hl hlk hmk hk hcc hcm 2 ⟨21, 0, 0⟩ (by decide) (by omega) hN2 hw) ?_
              refine WL.nil ?_
              refine WE.block_normal ?_
              refine WE.end0 rfl fun w' hw => ?_
              have e : (thenB mk cur k [12] || thenB mk cur k [17]) = true := by simp [hc5]
              refine ⟨rfl, ?_⟩
              simp only [pushedL, hc0, hc2, hc3, hc4, e, Bool.false_eq_true, if_false, if_true]
              exact Ws.keep (L := [_, _]) hw
            ·
              refine WC.skip ?_
              refine WE.block_normal ?_
              refine WE.end0 rfl fun w' hw => ?_
              simp [hc5] at hc6
          ·
            refine WC.region ?_
            refine WL.val (.inl rfl) rfl (yl_move rfl) ?_
            refine WL.val (.inl rfl) rfl (yl_move rfl) ?_
            refine WL.bslice (.inl rfl) rfl el50 rfl rfl rfl fun b105 => ?_
            refine WL.callp (.inl rfl) rfl en70 rfl (fun w hw => then_any (hv w) bh code.length _ _ _ cc ck 1 cur mk [17] k w (hv_le w) hl hN2 (hw.hvb 6 rfl rfl) (hw.hvb 6 rfl rfl) (hv_ins hw 7 rfl (by omega) hcm) (hmk.mono fun _ _ _ h => (hv_of (hw.vs K (by simp))).cell h) hlk (hv_ints hw 0 rfl (by decide) (by decide) (by intro j x hj; match j, hj with | 0, hj => cases hj; rfl)) (by decide) hk) ?_
            refine WL.val (.inl rfl) rfl (yl_assign rfl) ?_
            refine WL.nil ?_
            refine WE.then_normal ?_
            refine WC.cond rfl (fun hc6 => ?_) (fun hc6 => ?_)
            ·
              have hlt := thenB_lt hc6 (i := 0) (by decide)
              refine WC.region ?_
              refine WL.val (.inl rfl) rfl (yl_move rfl) ?_
              refine WL.val (.inl rfl) rfl (yl_move rfl) ?_
              refine WL.val (.inl rfl) rfl (yl_build zr65 pl65 rfl rfl) ?_
              refine WL.front 7 rfl ?_
              refine WL.front 7 rfl ?_
              refine WL.callw0 [_, _] _ [_, _] (.inl rfl) rfl en72 rfl rfl [H, K] (by simp) (fun w hw => lay_any bh bc am ak cm cc ck data H K code cur mk k w hm hl hlk hmk hk hcc hcm 2 ⟨21, 0, 0⟩ (by decide) (by omega) hN2 hw) ?_
              refine WL.nil ?_
              refine WE.block_normal ?_
              refine WE.end0 rfl fun w' hw => ?_
              have e : (thenB mk cur k [12] || thenB mk cur k [17]) = true := by simp [hc6]
              refine ⟨rfl, ?_⟩
              simp only [pushedL, hc0, hc2, hc3, hc4, e, Bool.false_eq_true, if_false, if_true]
              exact Ws.keep (L := [_, _]) hw
            ·
              refine WC.skip ?_
              refine WE.block_normal ?_
              refine WE.end0 rfl fun w' hw => ?_
              have e : (thenB mk cur k [12] || thenB mk cur k [17]) = false := by simp [hc5, hc6]
              refine ⟨rfl, ?_⟩
              simp only [pushedL, hc0, hc2, hc3, hc4, e, Bool.false_eq_true, if_false, if_true]
              exact Ws.drop (L := [_, _, _, _, _, _]) hw

theorem peep_any (H : View) (a : Option Addr) (c : Nat) (code : List Ins) (data : Int) (w : World) (hH : Le H w) (hm : Sl rdIns 3 H a c code) :
    Calls Try.prog 10 #[.agg #[.slice a code.length c, .int .i64 data]] w fun e w' => ∃ r : Option Addr × Nat, e = .returned (.tuple #[.agg #[.slice r.1 (peepR code data).1.length r.2, .int .i64 (peepR code data).2.1], .int .i64 (peepR code data).2.2]) ∧ Ext w w' ∧ Sl rdIns 3 (nv w w') r.1 r.2 (peepR code data).1 := by
  have hcap := hm.cap
  have hmax := hm.max
  refine enter Try.func10 rfl 59 rfl rfl ?_
  refine WC.world (W' := Ws w [] [] [H]) (fun _ e => by subst e; exact Ws.init (by simp [hH])) ?_
  refine WC.seq ?_
  refine WC.region ?_
  refine WL.box (.inl rfl) rfl rfl fun b1 => ?_
  refine WL.alloc (.inl rfl) rfl zr24 fun b2 => ?_
  refine WL.val (.inl rfl) rfl (yl_assign rfl) ?_
  refine WL.nil ?_
  refine WE.then_normal ?_
  refine WC.seq ?_
  refine WC.region ?_
  refine WL.val (.inl rfl) rfl (yl_ldka 1 rfl rfl ag24 rfl) ?_
  refine WL.calld (.inl rfl) rfl en9 rfl (fun r : Option Addr × Nat => .tuple #[.slice r.1 (marksR code data).1.length r.2, .int .i64 (marksR code data).2]) (fun H r => Sl rdBool 1 H r.1 r.2 (marksR code data).1) (fun w hw => marks_any H a c code data w (hw.vs _ (by simp)) hm) ?_
  intro K r8 hfK hmk
  refine WL.val (.inl rfl) rfl (yl_move rfl) ?_
  refine WL.val (.inl rfl) rfl (yl_extract rfl rfl) ?_
  refine WL.val (.inl rfl) rfl (yl_extract rfl rfl) ?_
  refine WL.val (.inl rfl) rfl (yl_assign rfl) ?_
  refine WL.val (.inl rfl) rfl (yl_assign rfl) ?_
  refine WL.nil ?_
  refine WE.then_normal ?_
  refine WC.seq ?_
  refine WC.seq ?_
  refine WC.region ?_
  refine WL.val (.inl rfl) rfl (yl_move rfl) ?_
  refine WL.val (.inl rfl) rfl (yl_ne rfl rfl) ?_
  refine WL.nil ?_
  refine WE.then_normal ?_
  refine WC.cond rfl (fun hc0 => ?_) (fun hc0 => ?_)
  ·
    have hz : ¬ checkImg code data = 0 := fun h => by simp [marksR, h] at hc0
    have hM : marksR code data = ([], checkImg code data) := by simp [marksR, hz]
    have hP : peepR code data = ([], 0, checkImg code data) := by simp [peepR, hz]
    rw [hM]
    refine WC.seq ?_
    refine WC.region ?_
    refine WL.val (.inl rfl) rfl (yl_build zr24 pl24 rfl rfl) ?_
    refine WL.val (.inl rfl) rfl (yl_move rfl) ?_
    refine WL.store 0 (.inl rfl) rfl rfl rfl sz24 rfl rfl rfl ?_
    refine WL.val (.inl rfl) rfl (yl_assign rfl) ?_
    refine WL.nil ?_
    refine WE.then_normal ?_
    refine WC.ret ?_
    refine WE.then_ret ?_
    refine WE.retc2 0 rfl rfl rfl rfl ag24 rfl fun w' hw => ?_
    rw [hP]
    exact ⟨(none, 0), rfl, hw.fr, Sl.nil⟩
  ·
    have hz : checkImg code data = 0 := by
      by_cases h : checkImg code data = 0
      · exact h
      · simp [marksR, h] at hc0
    have hM : marksR code data = (marks code, 0) := by simp [marksR, hz]
    have hP : peepR code data = (peepL code, data, 0) := by simp [peepR, hz]
    obtain ⟨hpos, hle⟩ := check_len hz
    have hml : (marks code).length = code.length := mk_len _ _ _
    rw [hM] at hmk
    rw [hM]
    simp only [hml]
    refine WC.skip ?_
    refine WE.then_normal ?_
    refine WC.seq ?_
    refine WC.draws0 [(0, true), (1, true), (2, true), (4, true), (3, false), (5, true), (6, false), (7, true)] mixed (by kernel_rfl) (fun _ _ _ d _ h => by cases d <;> exact h) ?_
    refine WD.q rfl (.inl rfl) rfl (fun _ h => h) (yl_ldka 1 rfl rfl ag24 rfl) ?_
    refine WD.q rfl (.inl rfl) rfl (fun _ h => h) (yl_fa fo24_0 rfl) ?_
    refine WD.q rfl (.inl rfl) rfl (fun _ h => h) (yl_ldk 1 rfl rfl rfl na22) ?_
    refine WD.q rfl (.inl rfl) rfl (fun _ h => h) (yl_move rfl) ?_
    refine WD.e rfl (fun _ h => h) ?_
    refine WL.callo (.inl rfl) rfl en33 rfl (fun w hw => cloneIns_any H a c code w (hw.vs H (by simp)) hm (by omega)) ?_
    intro v20 hv20
    obtain ⟨bc, cc, rfl, hcc, hcm⟩ : ∃ b c, v20 = .slice (some ⟨b, 0, none⟩) code.length c ∧ code.length ≤ c ∧ c ≤ maxLen := by
      rcases hv20 with ⟨_, h⟩ | h
      · omega
      · exact h
    have hcm : cc ≤ 9223372036854775807 := by unfold maxLen at hcm; omega
    refine WL.nil ?_
    refine WE.toD ?_
    refine WD.q rfl (.inl rfl) rfl (fun _ h => by have h := Ws.drop (L := [_]) (L' := _) h; exact h) (yl_build zr70 pl70 rfl rfl) ?_
    refine WD.e rfl (fun _ h => by have h := Ws.drop (L := [_]) (L' := _) h; exact h) ?_
    refine WL.box (.inl rfl) rfl rfl fun b23 => ?_
    refine WL.nil ?_
    refine WE.toD ?_
    refine WD.q rfl (.inl rfl) rfl (fun _ h => by have h := Ws.drop (L := [_, _]) (L' := _) h; exact h) (yl_assign rfl) ?_
    refine WD.nil (fun _ h => by have h := Ws.drop (L := [_, _]) (L' := _) h; exact h) ?_
    refine WE.then_normal ?_
    refine WC.seq ?_
    refine WC.seq ?_
    refine WC.region ?_
    refine WL.val (.inl rfl) rfl (yl_move rfl) ?_
    refine WL.val (.inl rfl) rfl (yl_nil rfl) ?_
    refine WL.val (.inl rfl) rfl (yl_fa fo70_1 rfl) ?_
    refine WL.val (.inl rfl) rfl (yl_ldk 0 rfl rfl rfl na22) ?_
    refine WL.val (.inl rfl) rfl (yl_len es22 rfl) ?_
    refine WL.val (.inl rfl) rfl (yl_move rfl) ?_
    refine WL.nil ?_
    refine WE.then_normal ?_
    refine WC.block ?_
    refine WC.loopK (ι := Nat) (fun i => [(29, .int .i64 (i : Int))]) [(1, _), (2, _), (3, _), (6, _), (28, _)] (fun i => Ws w [] [blk b23 (.cells (Value.agg #[.slice a code.length c, .int .i64 data, .slice (some ⟨bc, 0, none⟩) code.length cc, .slice r8.1 code.length r8.2]).cells 70 (0, 0)), osl 65 3 (.slice (some ⟨bc, 0, none⟩) code.length cc) code.length ((peepN (marks code) code i).flatMap Ins.cells), blk b2 (.cells (Value.agg #[.slice none 0 0, .int .i64 0]).cells 24 (0, 0)), blk b1 (.cells (Value.agg #[.slice a code.length c, .int .i64 data]).cells 24 (0, 0))] [K, H]) (fun i => i ≤ code.length) (fun i => code.length - i) 0 (Nat.zero_le _) (sc rfl (sc rfl (sc rfl (sc rfl (sc rfl (sc rfl sn)))))) (fun _ h => h) ?_
    intro i hi
    refine WC.seq ?_
    refine WC.region ?_
    refine WL.val (.inl rfl) rfl (yl_lt rfl rfl) ?_
    refine WL.nil ?_
    refine WE.then_normal ?_
    refine WC.seq ?_
    refine WC.cond rfl (fun hc1 => ?_) (fun hc1 => ?_)
    ·
      have hlt : i < code.length := by simpa using hc1
      have hx : (peepN (marks code) code i)[i]? = some (atI (peepN (marks code) code i) i) := atI_get (by rw [peepN_len]; exact hlt)
      refine WC.skip ?_
      refine WE.then_normal ?_
      refine WC.seq ?_
      refine WC.block ?_
      refine WC.seq ?_
      refine WC.region ?_
      refine WL.val (.inl rfl) rfl (yl_move rfl) ?_
      refine WL.val (.inl rfl) rfl (yl_assign rfl) ?_
      refine WL.nil ?_
      refine WE.then_normal ?_
      refine WC.seq ?_
      refine WC.region ?_
      refine WL.val (.inl rfl) rfl (yl_move rfl) ?_
      refine WL.val (.inl rfl) rfl (yl_nil rfl) ?_
      refine WL.val (.inl rfl) rfl (yl_fa fo70_1 rfl) ?_
      refine WL.val (.inl rfl) rfl (yl_ldk 0 rfl rfl rfl na22) ?_
      refine WL.val (.inl rfl) rfl (yl_move rfl) ?_
      refine WL.val (.inl rfl) rfl (yl_iak es22 rfl rfl (by omega)) ?_
      refine WL.val (.inl rfl) rfl (yl_fa fo65_0 rfl) ?_
      refine WL.val (.inl rfl) rfl (yl_ldo 1 rfl rfl na3 (ins_op hx)) ?_
      refine WL.nil ?_
      refine WE.then_normal ?_
      refine WC.block ?_
      refine WC.seq ?_
      refine WC.seq ?_
      refine WC.region ?_
      refine WL.val (.inl rfl) rfl (yl_eq rfl rfl) ?_
      refine WL.val (.inl rfl) rfl (yl_assign rfl) ?_
      refine WL.nil ?_
      refine WE.then_normal ?_
      refine WC.cond rfl (fun hc2 => ?_) (fun hc2 => ?_)
      ·
        refine WC.skip ?_
        refine WE.then_normal ?_
        refine WC.cond rfl (fun hc3 => ?_) (fun hc3 => ?_)
        ·
          refine WC.region ?_
          refine WL.val (.inl rfl) rfl (yl_move rfl) ?_
          refine WL.val (.inl rfl) rfl (yl_move rfl) ?_
          refine WL.front 1 rfl ?_
          refine WL.front 1 rfl ?_
          refine WL.callw0 [_, _] _ [_, _] (.inl rfl) rfl en34 rfl rfl [H, K] (by simp) (fun w hw => thread_any b23 bc a r8.1 c cc r8.2 data H K code (peepN (marks code) code i) (marks code) i w hm (peepN_len _ _ _) hml hmk hlt hcc hcm hw) ?_
          refine WL.nil ?_
          refine WE.block_normal ?_
          refine WE.block_normal ?_
          refine WE.then_normal ?_
          refine WC.region ?_
          refine WL.val (.inl rfl) rfl (yl_inc rfl rfl rfl (by omega)) ?_
          refine WL.val (.inl rfl) rfl (yl_move rfl) ?_
          refine WL.nil ?_
          exact WE.again (i + 1) (by omega) (by omega) (sc rfl (sc rfl (sc rfl (sc rfl (sc rfl (sc rfl sn)))))) (fun _ h => by
            have e : peepN (marks code) code (i + 1) = stepL (marks code) code (peepN (marks code) code i) i := rfl
            rw [e]
            simp only [stepL, hc2, hc3, Bool.or_true, Bool.or_false, Bool.true_or, Bool.false_or, Bool.or_self, Bool.false_eq_true, if_true, if_false]
            exact h)
        ·
          refine WC.seq ?_
          refine WC.region ?_
          refine WL.val (.inl rfl) rfl (yl_eq rfl rfl) ?_
          refine WL.val (.inl rfl) rfl (yl_assign rfl) ?_
          refine WL.nil ?_
          refine WE.then_normal ?_
          refine WC.cond rfl (fun hc4 => ?_) (fun hc4 => ?_)
          ·
            refine WC.region ?_
            refine WL.val (.inl rfl) rfl (yl_move rfl) ?_
            refine WL.val (.inl rfl) rfl (yl_move rfl) ?_
            refine WL.front 1 rfl ?_
            refine WL.front 1 rfl ?_
            refine WL.callw0 [_, _] _ [_, _] (.inl rfl) rfl en35 rfl rfl [H, K] (by simp) (fun w hw => pushed_any b23 bc a r8.1 c cc r8.2 data H K code (peepN (marks code) code i) (marks code) i w hm (peepN_len _ _ _) hml hmk hlt hcc hcm hle hw) ?_
            refine WL.nil ?_
            refine WE.block_normal ?_
            refine WE.block_normal ?_
            refine WE.then_normal ?_
            refine WC.region ?_
            refine WL.val (.inl rfl) rfl (yl_inc rfl rfl rfl (by omega)) ?_
            refine WL.val (.inl rfl) rfl (yl_move rfl) ?_
            refine WL.nil ?_
            exact WE.again (i + 1) (by omega) (by omega) (sc rfl (sc rfl (sc rfl (sc rfl (sc rfl (sc rfl sn)))))) (by rw [hc2] at hc3; cases hc3)
          ·
            refine WC.skip ?_
            refine WE.block_normal ?_
            refine WE.block_normal ?_
            refine WE.then_normal ?_
            refine WC.region ?_
            refine WL.val (.inl rfl) rfl (yl_inc rfl rfl rfl (by omega)) ?_
            refine WL.val (.inl rfl) rfl (yl_move rfl) ?_
            refine WL.nil ?_
            exact WE.again (i + 1) (by omega) (by omega) (sc rfl (sc rfl (sc rfl (sc rfl (sc rfl (sc rfl sn)))))) (by rw [hc2] at hc3; cases hc3)
      ·
        refine WC.region ?_
        refine WL.val (.inl rfl) rfl (yl_eq rfl rfl) ?_
        refine WL.val (.inl rfl) rfl (yl_assign rfl) ?_
        refine WL.nil ?_
        refine WE.then_normal ?_
        refine WC.cond rfl (fun hc3 => ?_) (fun hc3 => ?_)
        ·
          refine WC.region ?_
          refine WL.val (.inl rfl) rfl (yl_move rfl) ?_
          refine WL.val (.inl rfl) rfl (yl_move rfl) ?_
          refine WL.front 1 rfl ?_
          refine WL.front 1 rfl ?_
          refine WL.callw0 [_, _] _ [_, _] (.inl rfl) rfl en34 rfl rfl [H, K] (by simp) (fun w hw => thread_any b23 bc a r8.1 c cc r8.2 data H K code (peepN (marks code) code i) (marks code) i w hm (peepN_len _ _ _) hml hmk hlt hcc hcm hw) ?_
          refine WL.nil ?_
          refine WE.block_normal ?_
          refine WE.block_normal ?_
          refine WE.then_normal ?_
          refine WC.region ?_
          refine WL.val (.inl rfl) rfl (yl_inc rfl rfl rfl (by omega)) ?_
          refine WL.val (.inl rfl) rfl (yl_move rfl) ?_
          refine WL.nil ?_
          exact WE.again (i + 1) (by omega) (by omega) (sc rfl (sc rfl (sc rfl (sc rfl (sc rfl (sc rfl sn)))))) (fun _ h => by
            have e : peepN (marks code) code (i + 1) = stepL (marks code) code (peepN (marks code) code i) i := rfl
            rw [e]
            simp only [stepL, hc2, hc3, Bool.or_true, Bool.or_false, Bool.true_or, Bool.false_or, Bool.or_self, Bool.false_eq_true, if_true, if_false]
            exact h)
        ·
          refine WC.seq ?_
          refine WC.region ?_
          refine WL.val (.inl rfl) rfl (yl_eq rfl rfl) ?_
          refine WL.val (.inl rfl) rfl (yl_assign rfl) ?_
          refine WL.nil ?_
          refine WE.then_normal ?_
          refine WC.cond rfl (fun hc4 => ?_) (fun hc4 => ?_)
          ·
            refine WC.region ?_
            refine WL.val (.inl rfl) rfl (yl_move rfl) ?_
            refine WL.val (.inl rfl) rfl (yl_move rfl) ?_
            refine WL.front 1 rfl ?_
            refine WL.front 1 rfl ?_
            refine WL.callw0 [_, _] _ [_, _] (.inl rfl) rfl en35 rfl rfl [H, K] (by simp) (fun w hw => pushed_any b23 bc a r8.1 c cc r8.2 data H K code (peepN (marks code) code i) (marks code) i w hm (peepN_len _ _ _) hml hmk hlt hcc hcm hle hw) ?_
            refine WL.nil ?_
            refine WE.block_normal ?_
            refine WE.block_normal ?_
            refine WE.then_normal ?_
            refine WC.region ?_
            refine WL.val (.inl rfl) rfl (yl_inc rfl rfl rfl (by omega)) ?_
            refine WL.val (.inl rfl) rfl (yl_move rfl) ?_
            refine WL.nil ?_
            exact WE.again (i + 1) (by omega) (by omega) (sc rfl (sc rfl (sc rfl (sc rfl (sc rfl (sc rfl sn)))))) (fun _ h => by
              have e : peepN (marks code) code (i + 1) = stepL (marks code) code (peepN (marks code) code i) i := rfl
              rw [e]
              simp only [stepL, hc2, hc3, hc4, Bool.or_true, Bool.or_false, Bool.true_or, Bool.false_or, Bool.or_self, Bool.false_eq_true, if_true, if_false]
              exact h)
          ·
            refine WC.skip ?_
            refine WE.block_normal ?_
            refine WE.block_normal ?_
            refine WE.then_normal ?_
            refine WC.region ?_
            refine WL.val (.inl rfl) rfl (yl_inc rfl rfl rfl (by omega)) ?_
            refine WL.val (.inl rfl) rfl (yl_move rfl) ?_
            refine WL.nil ?_
            exact WE.again (i + 1) (by omega) (by omega) (sc rfl (sc rfl (sc rfl (sc rfl (sc rfl (sc rfl sn)))))) (fun _ h => by
              have e : peepN (marks code) code (i + 1) = stepL (marks code) code (peepN (marks code) code i) i := rfl
              rw [e]
              simp only [stepL, hc2, hc3, hc4, Bool.or_true, Bool.or_false, Bool.true_or, Bool.false_or, Bool.or_self, Bool.false_eq_true, if_true, if_false]
              exact h)
    ·
      have hie : i = code.length := by simp at hc1; omega
      subst hie
      refine WC.exit ?_
      refine WE.then_exit ?_
      refine WE.then_exit ?_
      refine WE.block_hit ?_
      refine WE.then_normal ?_
      refine WC.seq ?_
      refine WC.draws1 2 [(0, true), (1, true), (2, true), (3, true), (4, true), (5, true), (6, true), (7, false), (8, false)] mixed (by kernel_rfl) (fun _ _ _ d _ h => by cases d <;> exact h) ?_
      refine WD.q rfl (.inl rfl) rfl (fun _ h => by have h := Ws.out 2 h; exact h) (yl_move rfl) ?_
      refine WD.q rfl (.inl rfl) rfl (fun _ h => by have h := Ws.out 2 h; exact h) (yl_nil rfl) ?_
      refine WD.q rfl (.inl rfl) rfl (fun _ h => by have h := Ws.out 2 h; exact h) (yl_fa fo70_1 rfl) ?_
      refine WD.q rfl (.inl rfl) rfl (fun _ h => by have h := Ws.out 2 h; exact h) (yl_ldk 0 rfl rfl rfl na22) ?_
      refine WD.q rfl (.inl rfl) rfl (fun _ h => by have h := Ws.out 2 h; exact h) (yl_fa fo24_1 rfl) ?_
      refine WD.q rfl (.inl rfl) rfl (fun _ h => by have h := Ws.out 2 h; exact h) (yl_ldk 2 rfl rfl rfl na3) ?_
      refine WD.q rfl (.inl rfl) rfl (fun _ h => by have h := Ws.out 2 h; exact h) (yl_build zr24 pl24 rfl rfl) ?_
      refine WD.e rfl (fun _ h => by have h := Ws.out 2 h; exact h) ?_
      refine WL.store 2 (.inl rfl) rfl rfl rfl sz24 rfl rfl rfl ?_
      refine WL.nil ?_
      refine WE.toD ?_
      refine WD.e rfl (fun _ h => by have h := Ws.out 2 h; exact h) ?_
      refine WL.val (.inl rfl) rfl (yl_assign rfl) ?_
      refine WL.nil ?_
      refine WE.toD ?_
      refine WD.nil (fun _ h => by have h := Ws.out 2 h; exact h) ?_
      refine WE.then_normal ?_
      refine WC.ret ?_
      refine WE.retc2 2 rfl rfl rfl rfl ag24 rfl fun w' hw => ?_
      rw [hP]
      exact ⟨(some ⟨bc, 0, none⟩, cc), by simp [peepL, peepN_len]; rfl, hw.fr, own_ins hw 1 rfl (peepN_len _ _ _)⟩

end Go.Proofs.Ytagoencpeflmlaa
