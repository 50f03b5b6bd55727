/- The law TreeChecks, where what comes in is of bulk at most 1048576: the call returns true and leaves the module as it reads; the library's listed variables hold what the program's text lays. -/
import Derived.Test.YtjfldjidhkfnbaaGreatDoorC3
section
namespace Go.Proofs.YtjfldjidhkfnbaaGreatDoor
open Go.Bw
set_option linter.unusedVariables false
set_option linter.unusedSimpArgs false
theorem refW_le (mod nm : Tx) : (refW mod nm).length ≤ 3 := by unfold refW; split <;> simp
theorem comma_sum : ∀ l : List (List Tx), (commaW l).length ≤ (l.map fun x => x.length + 1).sum
  | [] => Nat.zero_le _
  | [x] => by simp [commaW]
  | x :: y :: r => by
    have := comma_sum (y :: r)
    simp only [commaW, List.length_append, List.map_cons, List.sum_cons, List.length_cons, List.length_nil] at this ⊢
    omega
theorem at_sum : ∀ (l : List (List Tx)), (at_ l 0).length + (at_ l 1).length ≤ (l.map fun x => x.length + 1).sum
  | [] => by simp [at_]
  | [x] => by simp [at_]
  | x :: y :: r => by simp [at_]; omega
theorem exprO_le (op n : Int) (mod nm : Tx) (A : List (List Tx)) : (exprO op n mod nm A).length ≤ 5 + (A.map fun x => x.length + 1).sum := by
  have h1 := refW_le mod nm; have h2 := comma_sum A; have h3 := at_sum A
  unfold exprO argsW
  repeat' split
  all_goals (try simp only [List.length_append, List.length_cons, List.length_nil])
  all_goals omega
mutual
theorem exprW_le : ∀ x : TExpr, (exprW x).length + 1 ≤ 7 * wE x
  | .mk op n mod nm args => by
    have h1 := exprO_le op n mod nm (exprWs args); have h2 := exprWs_le args
    rw [exprW, wE]
    omega
theorem exprWs_le : ∀ l : List TExpr, ((exprWs l).map fun x => x.length + 1).sum ≤ 7 * wEs l
  | [] => by simp [exprWs]
  | x :: r => by
    have h1 := exprW_le x; have h2 := exprWs_le r
    rw [exprWs, wEs, List.map_cons, List.sum_cons]
    omega
end
theorem stmtO_le (op : Int) (mod nm : Tx) (A : List (List Tx)) (b : List Tx) (ol : Nat) (o : List Tx) : (stmtO op mod nm A b ol o).length ≤ 8 + (A.map fun x => x.length + 1).sum + b.length + o.length := by
  have h1 := refW_le mod nm; have h2 := comma_sum A; have h3 := at_sum A
  unfold stmtO argsW blkW
  repeat' split
  all_goals (try simp only [List.length_append, List.length_cons, List.length_nil])
  all_goals omega
mutual
theorem stmtW_le : ∀ x : TStmt, (stmtW x).length + 1 ≤ 9 * wS x
  | .mk op mod nm args body other => by
    have h1 := stmtO_le op mod nm (exprWs args) (stmtWs body) other.length (stmtWs other); have h2 := exprWs_le args; have h3 := stmtWs_le9 body; have h4 := stmtWs_le9 other
    rw [stmtW, wS]
    omega
theorem stmtWs_le9 : ∀ l : List TStmt, (stmtWs l).length ≤ 9 * wSs l
  | [] => by simp [stmtWs]
  | x :: r => by
    have h1 := stmtW_le x; have h2 := stmtWs_le9 r
    rw [stmtWs, wSs, List.length_append]
    omega
end
theorem uses_le : ∀ l : List Tx, (l.flatMap useW).length ≤ 9 * wN l
  | [] => by simp
  | x :: r => by
    have := uses_le r
    rw [List.flatMap_cons, List.length_append, wN]
    simp only [useW, List.length_cons, List.length_nil]
    omega
theorem locs_le : ∀ l : List Tx, (l.flatMap locW).length ≤ 9 * wN l
  | [] => by simp
  | x :: r => by
    have := locs_le r
    rw [List.flatMap_cons, List.length_append, wN]
    simp only [locW, List.length_cons, List.length_nil]
    omega
theorem pubW_le (b : Bool) : (pubW b).length ≤ 1 := by cases b <;> decide
theorem decls_le : ∀ l : List TDecl, (l.flatMap declW).length ≤ 9 * wD l
  | [] => by simp
  | x :: r => by
    have := decls_le r; have := pubW_le x.pub
    have h : (declO x).length ≤ 5 := by
      unfold declO
      split
      · simp
      · split
        · simp
        · split <;> simp
    rw [List.flatMap_cons, List.length_append, wD, declW]
    simp only [List.length_append, List.length_cons, List.length_nil]
    omega
theorem sg_le (l : List Tx) : (commaW (sg l)).length ≤ 9 * wN l := by
  have h := comma_sum (sg l)
  have : ((sg l).map fun x => x.length + 1).sum ≤ 9 * wN l := by
    unfold sg
    induction l with
    | nil => simp
    | cons x r ih =>
      have := ih (comma_sum _)
      simp only [List.map_cons, List.sum_cons, List.length_cons, List.length_nil, wN] at this ⊢
      omega
  omega
theorem block_le (l : List TStmt) : (blockW l).length ≤ 2 + 9 * wSs l := by
  have := stmtWs_le9 l
  unfold blockW blkW
  simp only [List.length_append, List.length_cons, List.length_nil]
  omega
theorem procs_le : ∀ l : List TProc, (l.flatMap procW).length ≤ 9 * wP l
  | [] => by simp
  | x :: r => by
    have := procs_le r; have := pubW_le x.pub; have := procW_lsg x; have := sg_le x.params; have := locs_le x.locs; have := block_le x.body
    rw [List.flatMap_cons, List.length_append, wP]
    omega
theorem modW_le (m : TMod) : (modW m).length ≤ 9 * wM m := by
  have := modW_len m; have := uses_le m.uses; have := decls_le m.decls; have := procs_le m.procs; have := block_le m.main
  unfold wM
  omega
theorem tok_num {t : Tok} (h : okTok t) (hk : t.kind = 2) : 0 ≤ t.n ∧ t.n ≤ 1099511627775 := by
  have := h.2
  unfold tokOk at this
  rw [if_neg (by omega), if_pos hk] at this
  simp at this
  exact this.2
theorem ag27 : aggOf Tryz.prog 27 = some 5 := by kernel_rfl
theorem en7 : Enters Tryz.prog 7 := enters_of Tryz.func7 (by kernel_rfl) rfl
theorem pl63 : placesP Tryz.prog 63 = some [(0, 1)] := by kernel_rfl
theorem zr63 : zeroOf Tryz.prog 63 = some (.agg #[.slice none 0 0]) := by kernel_rfl
theorem en24 : Enters Tryz.prog 24 := enters_of Tryz.func24 (by kernel_rfl) rfl
theorem treeShow_any (G H : View) (ke ks : Nat) (q : MAt) (m : TMod) (w : World) (hG : Le G w) (hz : Laid G) (hH : Le H w) (hm : RdM ke ks H q m) (hb : wM m ≤ 109951162777) :
    Calls Tryz.prog 9 #[.agg (modV m q).toArray] w fun e w' => e = .returned (.tuple #[st (showM m).1, .int .i64 (showM m).2]) ∧ Ext w w' := by
  have hmw := modW_le m
  refine enter Tryz.func9 rfl 47 rfl rfl ?_
  refine WC.world (W' := Ws w [] [] [G, H]) (fun _ e => by subst e; exact Ws.init (by simp [hG, hH])) ?_
  refine WC.seq (WC.region ?_)
  refine WL.box (.inl rfl) rfl rfl fun b1 => ?_
  refine WL.val (.inl rfl) rfl (yl_assign rfl) ?_
  refine WL.val (.inl rfl) rfl (yl_assign rfl) ?_
  refine WL.nil (WE.then_normal (WC.seq (WC.seq (WC.region ?_))))
  refine WL.val (.inl rfl) rfl (yl_ldka 0 rfl rfl ag27 rfl) ?_
  refine WL.callp (.inl rfl) rfl en7 rfl (fun w hw => treeCheck_any H ke ks q m w (hw.vs _ (by simp)) hm (by omega)) ?_
  refine WL.val (.inl rfl) rfl (yl_assign rfl) ?_
  refine WL.nil (WE.then_normal (WC.seq (WC.region ?_)))
  refine WL.val (.inl rfl) rfl (yl_move rfl) ?_
  refine WL.val (.inl rfl) rfl (yl_ne rfl rfl) ?_
  refine WL.nil (WE.then_normal ?_)
  refine WC.cond rfl (fun hc0 => ?_) (fun hc0 => ?_)
  ·
    have hc : ¬ checkM m = 0 := by simpa using hc0
    have hS : showM m = ([], checkM m) := by rw [showM, if_neg hc]
    refine WC.seq (WC.region ?_)
    refine WL.val (.inl rfl) rfl (yl_move rfl) ?_
    refine WL.val (.inl rfl) rfl (yl_assign rfl) ?_
    refine WL.val (.inl rfl) rfl (yl_assign rfl) ?_
    refine WL.nil (WE.then_normal (WC.ret (WE.then_ret ?_)))
    refine WE.ret2 rfl rfl rfl fun w' hw => ?_
    rw [hS]
    exact ⟨rfl, hw.fr⟩
  ·
    have hc : checkM m = 0 := by simpa using hc0
    have hS : showM m = (J (modW m), 0) := by rw [showM, if_pos hc]
    have ht := checkM_tot.1 hc
    refine WC.skip (WE.then_normal (WC.seq (WC.region ?_)))
    refine WL.val (.inl rfl) rfl (yl_build zr63 pl63 rfl rfl) ?_
    refine WL.box (.inl rfl) rfl rfl fun b15 => ?_
    refine WL.world (fun _ h => h.osl_nil 66 3) ?_
    refine WL.val (.inl rfl) rfl (yl_assign rfl) ?_
    refine WL.nil (WE.then_normal (WC.seq (WC.region ?_)))
    refine WL.val (.inl rfl) rfl (yl_move rfl) ?_
    refine WL.val (.inl rfl) rfl (yl_ldka 2 rfl rfl ag27 rfl) ?_
    refine WL.front 0 rfl ?_
    refine WL.front 1 rfl ?_
    refine WL.callw (ι := Option Addr × Nat) [_, _] _ (.inl rfl) rfl en24 rfl rfl (fun _ => .tuple #[]) (fun r => penL b15 r (([] : List Tok) ++ TW (modW m))) (fun _ => True) [G, H] (by simp) (fun w hw => (penModule_any b15 G H ((none, 0) : Option Addr × Nat) (([] : List Tok)) ke ks q m w hz hm ht (by simp; omega) hw).mono fun e w' ⟨r2, h1, h2⟩ => ⟨r2, h1, trivial, h2⟩) ?_
    intro r18 _
    refine WL.nil (WE.then_normal (WC.seq (WC.region ?_)))
    refine WL.val (.inl rfl) rfl (yl_assign rfl) ?_
    refine WL.nil (WE.then_normal (WC.seq (WC.seq (WC.region ?_))))
    refine WL.val (.inl rfl) rfl (yl_move rfl) ?_
    refine WL.val (.inl rfl) rfl (yl_nil rfl) ?_
    refine WL.val (.inl rfl) rfl (yl_fa fo63_0 rfl) ?_
    refine WL.val (.inl rfl) rfl (yl_ldk 0 rfl rfl rfl na61) ?_
    refine WL.oslview (rd := rdTok) 1 rfl Tok.cells_len (fun _ _ _ _ h => h) fun HP hHP => ?_
    have hHP : Sl rdTok 3 HP r18.1 r18.2 (TW (modW m)) := hHP
    have hcap := hHP.cap
    have hmax := hHP.max
    refine WL.val (.inl rfl) rfl (yl_len es61 rfl) ?_
    refine WL.val (.inl rfl) rfl (yl_move rfl) ?_
    refine WL.nil (WE.then_normal (WC.block ?_))
    refine WC.loopK (ι := Nat) (fun i => [(24, .int .i64 (i : Int)), (6, st (joinT ((TW (modW m)).take i)))]) [(2, _), (3, _), (22, _), (23, _)] (fun i => Ws w [] [blk b15 (.cells #[.slice r18.1 (([] : List Tok) ++ TW (modW m)).length r18.2] 63 (0, 0)), blk b1 (.cells (modV m q).toArray 27 (0, 0))] [HP, G, H]) (fun i => i ≤ (TW (modW m)).length) (fun i => (TW (modW m)).length - i) 0 (Nat.zero_le _) (sc rfl (sc rfl (sc rfl (sc rfl (sc rfl (sc rfl sn)))))) (fun _ h => h) ?_
    intro i hi
    refine WC.seq (WC.region ?_)
    refine WL.val (.inl rfl) rfl (yl_lt rfl rfl) ?_
    refine WL.nil (WE.then_normal (WC.seq ?_))
    refine WC.cond rfl (fun hc1 => ?_) (fun hc1 => ?_)
    ·
      have hlt : i < (TW (modW m)).length := by simpa using hc1
      obtain ⟨x, hxi⟩ : ∃ x, (TW (modW m))[i]? = some x := ⟨_, List.getElem?_eq_getElem hlt⟩
      obtain ⟨pbx, pox, ha, hrow⟩ := hHP.elt i x hxi
      have hrow : RdC HP pbx (pox + i * 3) x.cells := hrow
      have hok := TW_ok ht
      have hxm := hok x (List.mem_of_getElem? hxi)
      have hxl := tokTxt_len hxm.1 hxm.2
      have hjl := joinT_take_len (TW (modW m)) i hok (by rw [TW_len]; omega)
      refine WC.skip (WE.then_normal (WC.seq (WC.block (WC.seq (WC.region ?_)))))
      refine WL.val (.inl rfl) rfl (yl_move rfl) ?_
      refine WL.val (.inl rfl) rfl (yl_iao es61 rfl rfl ha (by show i < (TW (modW m)).length; omega)) ?_
      refine WL.val (.inl rfl) rfl (yl_lda 0 ag66 rfl rfl rfl (hrow)) ?_
      refine WL.alloc (.inl rfl) rfl zr66 fun b8 => ?_
      refine WL.val (.inl rfl) rfl (yl_assign rfl) ?_
      refine WL.store 0 (.inl rfl) rfl rfl rfl sz66 rfl rfl rfl ?_
      refine WL.nil (WE.then_normal (WC.seq (WC.seq (WC.region ?_))))
      refine WL.val (.inl rfl) rfl (yl_move rfl) ?_
      refine WL.val (.inl rfl) rfl (yl_gt rfl rfl) ?_
      refine WL.nil (WE.then_normal ?_)
      refine WC.cond rfl (fun hc2 => ?_) (fun hc2 => ?_)
      ·
        have hi0 : 0 < i := by simp at hc2; omega
        have hj : joinT ((TW (modW m)).take i) ++ [32] ++ tokTxt x = joinT ((TW (modW m)).take (i + 1)) := by
          rw [take_snoc hxi, joinT_snoc]
          intro h
          have h2 : ((TW (modW m)).take i).length = i := by rw [List.length_take]; omega
          rw [h] at h2
          simp at h2
          omega
        refine WC.region ?_
        refine WL.val (.inl rfl) rfl (yl_move rfl) ?_
        refine WL.val (.inl rfl) rfl (yl_cats (b := [32]) rfl rfl (show _ + 1 ≤ _ by omega)) ?_
        refine WL.val (.inl rfl) rfl (yl_assign rfl) ?_
        refine WL.nil (WE.then_normal (WC.seq (WC.region ?_)))
        refine WL.val (.inl rfl) rfl (yl_fa fo66_0 rfl) ?_
        refine WL.val (.inl rfl) rfl (yl_ldk 0 rfl rfl rfl na3) ?_
        refine WL.val (.inl rfl) rfl (yl_eq rfl rfl) ?_
        refine WL.nil (WE.then_normal ?_)
        refine WC.cond rfl (fun hc3 => ?_) (fun hc3 => ?_)
        ·
          have hk : x.kind = 2 := by simpa using hc3
          obtain ⟨hn0, hn1⟩ := tok_num hxm hk
          rw [tokTxt, if_pos hk] at hj hxl
          refine WC.region ?_
          refine WL.val (.inl rfl) rfl (yl_move rfl) ?_
          refine WL.val (.inl rfl) rfl (yl_fa fo66_1 rfl) ?_
          refine WL.val (.inl rfl) rfl (yl_ldk 0 rfl rfl rfl na3) ?_
          refine WL.callp (.inl rfl) rfl en25 rfl (fun w hw => itoa_any G x.n (by omega) (by omega) w (hw.vs _ (by simp)) hz) ?_
          refine WL.val (.inl rfl) rfl (yl_cats rfl rfl (by first | omega | (simp only [List.length_append, List.length_cons, List.length_nil]; omega))) ?_
          refine WL.val (.inl rfl) rfl (yl_assign rfl) ?_
          refine WL.nil (WE.block_normal (WE.then_normal (WC.region ?_)))
          refine WL.val (.inl rfl) rfl (yl_inc rfl rfl rfl (by omega)) ?_
          refine WL.val (.inl rfl) rfl (yl_move rfl) ?_
          refine WL.nil ?_
          rw [hj]
          exact WE.again (i + 1) (by omega) (by omega) (sc rfl (sc rfl (sc rfl (sc rfl (sc rfl (sc rfl sn)))))) (fun _ h => Ws.drop (L := [_]) h)
        ·
          have hk : ¬ x.kind = 2 := by simpa using hc3
          rw [tokTxt, if_neg hk] at hj hxl
          refine WC.region ?_
          refine WL.val (.inl rfl) rfl (yl_move rfl) ?_
          refine WL.val (.inl rfl) rfl (yl_fa fo66_2 rfl) ?_
          refine WL.val (.inl rfl) rfl (yl_ldk 0 rfl rfl rfl na9) ?_
          refine WL.val (.inl rfl) rfl (yl_cats rfl rfl (by first | omega | (simp only [List.length_append, List.length_cons, List.length_nil]; omega))) ?_
          refine WL.val (.inl rfl) rfl (yl_assign rfl) ?_
          refine WL.nil (WE.block_normal (WE.then_normal (WC.region ?_)))
          refine WL.val (.inl rfl) rfl (yl_inc rfl rfl rfl (by omega)) ?_
          refine WL.val (.inl rfl) rfl (yl_move rfl) ?_
          refine WL.nil ?_
          rw [hj]
          exact WE.again (i + 1) (by omega) (by omega) (sc rfl (sc rfl (sc rfl (sc rfl (sc rfl (sc rfl sn)))))) (fun _ h => Ws.drop (L := [_]) h)
      ·
        have hi0 : i = 0 := by simp at hc2; omega
        have hj : joinT ((TW (modW m)).take i) ++ tokTxt x = joinT ((TW (modW m)).take (i + 1)) := by
          rw [take_snoc hxi]
          subst hi0
          simp [joinT, Lib.join, List.intercalate]
        refine WC.skip (WE.then_normal (WC.seq (WC.region ?_)))
        refine WL.val (.inl rfl) rfl (yl_fa fo66_0 rfl) ?_
        refine WL.val (.inl rfl) rfl (yl_ldk 0 rfl rfl rfl na3) ?_
        refine WL.val (.inl rfl) rfl (yl_eq rfl rfl) ?_
        refine WL.nil (WE.then_normal ?_)
        refine WC.cond rfl (fun hc3 => ?_) (fun hc3 => ?_)
        ·
          have hk : x.kind = 2 := by simpa using hc3
          obtain ⟨hn0, hn1⟩ := tok_num hxm hk
          rw [tokTxt, if_pos hk] at hj hxl
          refine WC.region ?_
          refine WL.val (.inl rfl) rfl (yl_move rfl) ?_
          refine WL.val (.inl rfl) rfl (yl_fa fo66_1 rfl) ?_
          refine WL.val (.inl rfl) rfl (yl_ldk 0 rfl rfl rfl na3) ?_
          refine WL.callp (.inl rfl) rfl en25 rfl (fun w hw => itoa_any G x.n (by omega) (by omega) w (hw.vs _ (by simp)) hz) ?_
          refine WL.val (.inl rfl) rfl (yl_cats rfl rfl (by first | omega | (simp only [List.length_append, List.length_cons, List.length_nil]; omega))) ?_
          refine WL.val (.inl rfl) rfl (yl_assign rfl) ?_
          refine WL.nil (WE.block_normal (WE.then_normal (WC.region ?_)))
          refine WL.val (.inl rfl) rfl (yl_inc rfl rfl rfl (by omega)) ?_
          refine WL.val (.inl rfl) rfl (yl_move rfl) ?_
          refine WL.nil ?_
          rw [hj]
          exact WE.again (i + 1) (by omega) (by omega) (sc rfl (sc rfl (sc rfl (sc rfl (sc rfl (sc rfl sn)))))) (fun _ h => Ws.drop (L := [_]) h)
        ·
          have hk : ¬ x.kind = 2 := by simpa using hc3
          rw [tokTxt, if_neg hk] at hj hxl
          refine WC.region ?_
          refine WL.val (.inl rfl) rfl (yl_move rfl) ?_
          refine WL.val (.inl rfl) rfl (yl_fa fo66_2 rfl) ?_
          refine WL.val (.inl rfl) rfl (yl_ldk 0 rfl rfl rfl na9) ?_
          refine WL.val (.inl rfl) rfl (yl_cats rfl rfl (by first | omega | (simp only [List.length_append, List.length_cons, List.length_nil]; omega))) ?_
          refine WL.val (.inl rfl) rfl (yl_assign rfl) ?_
          refine WL.nil (WE.block_normal (WE.then_normal (WC.region ?_)))
          refine WL.val (.inl rfl) rfl (yl_inc rfl rfl rfl (by omega)) ?_
          refine WL.val (.inl rfl) rfl (yl_move rfl) ?_
          refine WL.nil ?_
          rw [hj]
          exact WE.again (i + 1) (by omega) (by omega) (sc rfl (sc rfl (sc rfl (sc rfl (sc rfl (sc rfl sn)))))) (fun _ h => Ws.drop (L := [_]) h)
    ·
      have hge : ¬ i < (TW (modW m)).length := by simpa using hc1
      have hT : joinT ((TW (modW m)).take i) = J (modW m) := by rw [List.take_of_length_le (by omega), putTok_txt ht]
      refine WC.exit (WE.then_exit (WE.then_exit (WE.block_hit (WE.then_normal (WC.seq ?_)))))
      refine WC.region ?_
      refine WL.val (.inl rfl) rfl (yl_move rfl) ?_
      refine WL.val (.inl rfl) rfl (yl_assign rfl) ?_
      refine WL.val (.inl rfl) rfl (yl_assign rfl) ?_
      refine WL.nil (WE.then_normal (WC.ret ?_))
      refine WE.ret2 rfl rfl rfl fun w' hw => ?_
      rw [hS, ← hT]
      exact ⟨rfl, hw.fr⟩
end Go.Proofs.YtjfldjidhkfnbaaGreatDoor
end
section
namespace Go.Proofs.YtjfldjidhkfnbaaGreatDoor
open Go.Bw
set_option linter.unusedVariables false
set_option linter.unusedSimpArgs false
abbrev glassL (gb : Nat) (r : Option Addr × Nat) (l : Tk) : List Asr := [blk gb (.cells #[.slice r.1 l.length r.2] 73 (0, 0))]
def brk : List PanicEntry := [⟨.iface 75 (.agg #[]), false, false⟩]
def mustT : List Tx → Tk → Option Tk
  | [], l => some l
  | w :: ws, l => (hasT w l).bind (mustT ws)
theorem must1 (w : Tx) (l : Tk) : mustT [w] l = hasT w l := by unfold mustT; cases hasT w l <;> rfl
theorem must2 (v w : Tx) (l : Tk) : mustT [v, w] l = (hasT v l).bind (hasT w) := by
  unfold mustT
  cases hasT v l with
  | none => rfl
  | some q => exact must1 w q
theorem mustT_ok : ∀ {ws : List Tx} {l r : Tk}, AllOk l → mustT ws l = some r → AllOk r
  | [], l, r, hl, h => by injection h with h; subst h; exact hl
  | w :: ws, l, r, hl, h => by
    obtain ⟨q, h1, h2⟩ := Option.bind_eq_some_iff.1 h
    exact mustT_ok (hasT_ok hl h1) h2
theorem hasT_cons (s : Tx) (t : Tok) (r : Tk) : hasT s (t :: r) = if (t.text == s) = true then some r else none := rfl
theorem hasT_len {s : Tx} {l q : Tk} (h : hasT s l = some q) : q.length + 1 = l.length := by
  cases l with
  | nil => cases h
  | cons t r =>
    rw [hasT_cons] at h
    split at h
    · injection h with h; subst h; rfl
    · cases h
theorem mustT_cons_some {w : Tx} {ws : List Tx} {l q : Tk} (h : hasT w l = some q) : mustT (w :: ws) l = mustT ws q := by show (hasT w l).bind (mustT ws) = _; rw [h]; rfl
theorem mustT_cons_none {w : Tx} {ws : List Tx} {l : Tk} (h : hasT w l = none) : mustT (w :: ws) l = none := by show (hasT w l).bind (mustT ws) = _; rw [h]; rfl
structure TOk (l : Tk) : Prop where
  all : AllOk l
  len : l.length ≤ 4096
theorem tEats {l r : Tk} {ws : List Tx} (h : TOk l) (e : Eats l ws r) : TOk r := ⟨e.ok, by have := h.len; rw [e.2, List.length_append] at this; omega⟩
theorem tHas {s : Tx} {l r : Tk} (h : TOk l) (e : hasT s l = some r) : TOk r := ⟨hasT_ok h.all e, by have := hasT_len e; have := h.len; omega⟩
theorem mustT_len : ∀ {ws : List Tx} {l q : Tk}, mustT ws l = some q → q.length + ws.length = l.length
  | [], l, q, h => by injection h with h; subst h; rfl
  | w :: ws, l, q, h => by
    obtain ⟨q1, h1, h2⟩ := Option.bind_eq_some_iff.1 h
    have := hasT_len h1; have := mustT_len h2
    simp only [List.length_cons]
    omega
theorem tMust {ws : List Tx} {l r : Tk} (h : TOk l) (e : mustT ws l = some r) : TOk r := ⟨mustT_ok h.all e, by have := mustT_len e; have := h.len; omega⟩
theorem tNam {l r : Tk} {a : Tx} (h : TOk l) (e : namP l = some (a, r)) : TOk r := tEats h (namP_eats h.all e).1
theorem tNum {l r : Tk} {a : Int} (h : TOk l) (e : numP l = some (a, r)) : TOk r := tEats h (numP_eats h.all e)
theorem tRef {l r : Tk} {p : Tx × Tx} (h : TOk l) (e : refP l = some (p, r)) : TOk r := tEats h (refP_eats (mod := p.1) (nm := p.2) h.all e)
theorem tExpr {l r : Tk} {f : Nat} {x : TExpr} (h : TOk l) (e : exprP f l = some (x, r)) : TOk r := tEats h (exprP_eats f l x r h.all e)
theorem expr_len {l r : Tk} {f : Nat} {x : TExpr} (h : TOk l) (e : exprP f l = some (x, r)) : r.length + 1 ≤ l.length := by
  have h1 := (exprP_eats f l x r h.all e).2
  have h2 := exprW_ne x
  rw [h1]
  cases hw : exprW x with
  | nil => exact absurd hw h2
  | cons y t => simp
theorem drop_get {ws : List Tx} {i : Nat} {x : Tx} (h : ws[i]? = some x) : ws.drop i = x :: ws.drop (i + 1) := by
  obtain ⟨hi, e⟩ := List.getElem?_eq_some_iff.1 h
  rw [← e]
  exact List.drop_eq_getElem_cons hi
theorem fo73_0 : fieldOff Tryz.prog 73 0 = some 0 := by kernel_rfl
theorem en52 : Enters Tryz.prog 52 := enters_of Tryz.func52 (by kernel_rfl) rfl
theorem pl75 : placesP Tryz.prog 75 = some [] := by kernel_rfl
theorem zr75 : zeroOf Tryz.prog 75 = some (.agg #[]) := by kernel_rfl
theorem co75 : Tryz.prog.concrete 75 = true := by kernel_rfl
theorem en78 : Enters Tryz.prog 78 := enters_of Tryz.func78 (by kernel_rfl) rfl
theorem fld66_2 : fld1 Tryz.prog 66 2 = some 2 := by kernel_rfl
theorem fld66_1 : fld1 Tryz.prog 66 1 = some 1 := by kernel_rfl
theorem en51 : Enters Tryz.prog 51 := enters_of Tryz.func51 (by kernel_rfl) rfl
theorem has_any (gb : Nat) (HT : View) (r : Option Addr × Nat) (l : Tk) (s : Tx) (w : World) (hm : Sl rdTok 3 HT r.1 r.2 l) (hw : Ws w (List.flatMap Asr.ids (glassL gb r l)) (glassL gb r l) [HT] w) :
    Calls Tryz.prog 52 #[.pointer (some ⟨gb, 0, none⟩), st s] w fun e w' => ∃ i : Bool × (Option Addr × Nat) × Tk, e = .returned (.bool i.1) ∧ ((i.1 = true → hasT s l = some i.2.2) ∧ (i.1 = false → hasT s l = none ∧ l = i.2.2) ∧ Sl rdTok 3 HT i.2.1.1 i.2.1.2 i.2.2) ∧ Ws w (List.flatMap Asr.ids (glassL gb r l)) (glassL gb i.2.1 i.2.2) [HT] w' := by
  have hcap := hm.cap
  have hmax := hm.max
  have hd1 := hm.drop 1
  refine enter Tryz.func52 rfl 33 rfl rfl ?_
  refine WC.world (W' := Ws w (List.flatMap Asr.ids (glassL gb r l)) (glassL gb r l) [HT]) (fun _ e => by subst e; exact hw) ?_
  refine WC.seq (WC.region ?_)
  refine WL.val (.inl rfl) rfl (yl_assign rfl) ?_
  refine WL.nil (WE.then_normal (WC.seq (WC.region ?_)))
  refine WL.val (.inl rfl) rfl (yl_move rfl) ?_
  refine WL.val (.inl rfl) rfl (yl_nil rfl) ?_
  refine WL.val (.inl rfl) rfl (yl_fa fo73_0 rfl) ?_
  refine WL.val (.inl rfl) rfl (yl_ldk 0 rfl rfl rfl na61) ?_
  refine WL.val (.inl rfl) rfl (yl_len es61 rfl) ?_
  refine WL.val (.inl rfl) rfl (yl_gt rfl rfl) ?_
  refine WL.val (.inl rfl) rfl (yl_move rfl) ?_
  apply WL.and 9 (x := ((l.head?.map fun t => t.text == s).getD false)) rfl rfl rfl rfl (.inl rfl) rfl rfl rfl rfl rfl
  ·
    intro hg0
    obtain ⟨t, r0, rfl⟩ : ∃ t r0, l = t :: r0 := by
      cases l with
      | nil => simp at hg0
      | cons t r0 => exact ⟨t, r0, rfl⟩
    obtain ⟨pbt, pot, hat, hrt⟩ := hm.elt 0 t rfl
    have hrt : RdC HT pbt (pot + 0 * 3) t.cells := hrt
    refine WL.val (.inr ⟨_, _, _, rfl, rfl, rfl⟩) rfl (yl_move rfl) ?_
    refine WL.val (.inr ⟨_, _, _, rfl, rfl, rfl⟩) rfl (yl_nil rfl) ?_
    refine WL.val (.inr ⟨_, _, _, rfl, rfl, rfl⟩) rfl (yl_fa fo73_0 rfl) ?_
    refine WL.val (.inr ⟨_, _, _, rfl, rfl, rfl⟩) rfl (yl_ldk 0 rfl rfl rfl na61) ?_
    refine WL.val (.inr ⟨_, _, _, rfl, rfl, rfl⟩) rfl (yl_iao (i := 0) es61 rfl rfl hat (by simp)) ?_
    refine WL.val (.inr ⟨_, _, _, rfl, rfl, rfl⟩) rfl (yl_fa fo66_2 rfl) ?_
    refine WL.val (.inr ⟨_, _, _, rfl, rfl, rfl⟩) rfl (yl_ld 0 na9 rfl rfl (hrt 2 _ rfl)) ?_
    refine WL.val (.inr ⟨_, _, _, rfl, rfl, rfl⟩) rfl (yl_move rfl) ?_
    refine WL.val (.inr ⟨_, _, _, rfl, rfl, rfl⟩) rfl (yl_eqs rfl rfl) ?_
    exact Got.intro 9 rfl rfl rfl
  refine WL.val (.inl rfl) rfl (yl_assign rfl) ?_
  refine WL.nil (WE.then_normal (WC.seq (WC.seq (WC.region ?_))))
  refine WL.val (.inl rfl) rfl (yl_move rfl) ?_
  refine WL.nil (WE.then_normal ?_)
  refine WC.cond rfl (fun hc0 => ?_) (fun hc0 => ?_)
  ·
    obtain ⟨t, r0, rfl⟩ : ∃ t r0, l = t :: r0 := by
      cases l with
      | nil => simp at hc0
      | cons t r0 => exact ⟨t, r0, rfl⟩
    have heq : (t.text == s) = true := by simpa using hc0
    have hd1 := hd1 (by simp)
    refine WC.region ?_
    refine WL.val (.inl rfl) rfl (yl_move rfl) ?_
    refine WL.val (.inl rfl) rfl (yl_move rfl) ?_
    refine WL.val (.inl rfl) rfl (yl_nil rfl) ?_
    refine WL.val (.inl rfl) rfl (yl_fa fo73_0 rfl) ?_
    refine WL.val (.inl rfl) rfl (yl_ldk 0 rfl rfl rfl na61) ?_
    refine WL.val (.inl rfl) rfl (yl_slln 1 es61 rfl rfl rfl (by simp) hcap) ?_
    refine WL.val (.inl rfl) rfl (yl_nil rfl) ?_
    refine WL.val (.inl rfl) rfl (yl_fa fo73_0 rfl) ?_
    refine WL.store 0 (.inl rfl) rfl rfl rfl sz61 rfl rfl rfl ?_
    refine WL.nil (WE.then_normal (WC.seq (WC.region ?_)))
    refine WL.val (.inl rfl) rfl (yl_move rfl) ?_
    refine WL.val (.inl rfl) rfl (yl_assign rfl) ?_
    refine WL.nil (WE.then_normal (WC.ret ?_))
    refine WE.ret1 rfl rfl fun w' hw => ?_
    exact ⟨(true, (if r.2 - 1 = 0 then r.1 else r.1.map (·.add (1 * 3)), r.2 - 1), r0), by rw [hc0], ⟨fun _ => by rw [hasT_cons, if_pos heq], fun h => (by cases h), hd1⟩, hw⟩
  ·
    have hno : hasT s l = none := by
      cases l with
      | nil => rfl
      | cons t r0 => rw [hasT_cons, if_neg]; intro h; simp [h] at hc0
    refine WC.skip (WE.then_normal (WC.seq (WC.region ?_)))
    refine WL.val (.inl rfl) rfl (yl_move rfl) ?_
    refine WL.val (.inl rfl) rfl (yl_assign rfl) ?_
    refine WL.nil (WE.then_normal (WC.ret ?_))
    refine WE.ret1 rfl rfl fun w' hw => ?_
    exact ⟨(false, r, l), by rw [hc0], ⟨fun h => (by cases h), fun _ => ⟨hno, rfl⟩, hm⟩, hw⟩
theorem must_any (gb : Nat) (HT : View) (r : Option Addr × Nat) (l : Tk) (H : View) (a : Option Addr) (n : Nat) (ws : List Tx) (w : World) (hs : Sl rdStr 1 H a n ws) (hm : Sl rdTok 3 HT r.1 r.2 l) (hw : Ws w (List.flatMap Asr.ids (glassL gb r l)) (glassL gb r l) [HT, H] w) :
    Calls Tryz.prog 50 #[.pointer (some ⟨gb, 0, none⟩), .slice a ws.length n] w fun e w' => (∃ (r2 : Option Addr × Nat) (q : Tk), e = .returned (.tuple #[]) ∧ mustT ws l = some q ∧ Sl rdTok 3 HT r2.1 r2.2 q ∧ Ws w (List.flatMap Asr.ids (glassL gb r l)) (glassL gb r2 q) [HT, H] w') ∨ (∃ (r2 : Option Addr × Nat) (q : Tk), e = .panicked brk ∧ mustT ws l = none ∧ Ws w (List.flatMap Asr.ids (glassL gb r l)) (glassL gb r2 q) [HT, H] w') := by
  have hcap := hs.cap
  have hmax := hs.max
  refine enter Tryz.func50 rfl 19 rfl rfl ?_
  refine WC.world (W' := Ws w (List.flatMap Asr.ids (glassL gb r l)) (glassL gb r l) [HT, H]) (fun _ e => by subst e; exact hw) ?_
  refine WC.seq (WC.region ?_)
  refine WL.val (.inl rfl) rfl (yl_move rfl) ?_
  refine WL.val (.inl rfl) rfl (yl_len es22 rfl) ?_
  refine WL.val (.inl rfl) rfl (yl_move rfl) ?_
  refine WL.nil (WE.then_normal (WC.block ?_))
  refine WC.loopK (ι := Nat × (Option Addr × Nat) × Tk) (fun g => [(8, .int .i64 (g.1 : Int))]) [(0, _), (6, _), (7, _)] (fun g => Ws w (List.flatMap Asr.ids (glassL gb r l)) (glassL gb g.2.1 g.2.2) [HT, H]) (fun g => g.1 ≤ ws.length ∧ mustT ws l = mustT (ws.drop g.1) g.2.2 ∧ Sl rdTok 3 HT g.2.1.1 g.2.1.2 g.2.2) (fun g => ws.length - g.1) (0, r, l) ⟨Nat.zero_le _, rfl, hm⟩ (sc rfl (sc rfl (sc rfl (sc rfl sn)))) (fun _ h => h) ?_
  intro g ⟨hi, hR, hmg⟩
  refine WC.seq (WC.region ?_)
  refine WL.val (.inl rfl) rfl (yl_lt rfl rfl) ?_
  refine WL.nil (WE.then_normal (WC.seq ?_))
  refine WC.cond rfl (fun hc0 => ?_) (fun hc0 => ?_)
  ·
    have hlt : g.1 < ws.length := by simpa using hc0
    obtain ⟨x, hxi⟩ : ∃ x, ws[g.1]? = some x := ⟨_, List.getElem?_eq_getElem hlt⟩
    obtain ⟨pbx, pox, ha, hrow⟩ := hs.elt g.1 x hxi
    have hrow : RdC H pbx (pox + g.1 * 1) (strC x) := hrow
    have hdr := drop_get hxi
    refine WC.skip (WE.then_normal (WC.seq (WC.block (WC.seq (WC.region ?_)))))
    refine WL.val (.inl rfl) rfl (yl_iao es22 rfl rfl (by assumption) (by omega)) ?_
    refine WL.val (.inl rfl) rfl (yl_ld 1 na9 rfl rfl (hrow 0 _ rfl)) ?_
    refine WL.val (.inl rfl) rfl (yl_assign rfl) ?_
    refine WL.nil (WE.then_normal (WC.seq (WC.region ?_)))
    refine WL.val (.inl rfl) rfl (yl_move rfl) ?_
    refine WL.val (.inl rfl) rfl (yl_move rfl) ?_
    refine WL.front 0 rfl ?_
    refine WL.callw (ι := Bool × (Option Addr × Nat) × Tk) [_] _ (.inl rfl) rfl en52 rfl rfl (fun i => .bool i.1) (fun i => glassL gb i.2.1 i.2.2) (fun i => (i.1 = true → hasT x g.2.2 = some i.2.2) ∧ (i.1 = false → hasT x g.2.2 = none ∧ g.2.2 = i.2.2) ∧ Sl rdTok 3 HT i.2.1.1 i.2.1.2 i.2.2) [HT] (by simp) (fun w hw => has_any gb HT g.2.1 g.2.2 x w hmg hw) ?_
    intro ⟨b14, r14, q14⟩ ⟨h14t, h14f, hm14⟩
    refine WL.val (.inl rfl) rfl (yl_not rfl) ?_
    refine WL.nil (WE.then_normal ?_)
    refine WC.cond rfl (fun hc1 => ?_) (fun hc1 => ?_)
    ·
      obtain ⟨hn14, hl14⟩ := h14f (by simpa using hc1)
      refine WC.region ?_
      refine WL.val (.inl rfl) rfl (yl_build zr75 pl75 rfl rfl) ?_
      refine WL.val (.inl rfl) rfl (yl_mki co75 rfl) ?_
      refine WL.panic (.inl rfl) rfl ?_
      refine WE.block_panic ?_
      refine WE.then_panic ?_
      refine WE.then_panic ?_
      refine WE.block_panic ?_
      refine WE.panics fun w' hw => ?_
      exact .inr ⟨r14, q14, rfl, by rw [hR, hdr, mustT_cons_none hn14], (by have h := hw; exact h)⟩
    ·
      have hq14 := h14t (by simpa using hc1)
      refine WC.skip (WE.block_normal (WE.then_normal (WC.region ?_)))
      refine WL.val (.inl rfl) rfl (yl_inc rfl rfl rfl (by omega)) ?_
      refine WL.val (.inl rfl) rfl (yl_move rfl) ?_
      refine WL.nil ?_
      exact WE.again ((g.1 + 1, r14, q14) : Nat × (Option Addr × Nat) × Tk) (by show ws.length - (g.1 + 1) < ws.length - g.1; omega) ⟨by show g.1 + 1 ≤ ws.length; omega, by rw [hR, hdr, mustT_cons_some hq14], hm14⟩ (sc rfl (sc rfl (sc rfl (sc rfl sn)))) (fun _ h => h)
  ·
    have hge : ¬ g.1 < ws.length := by simpa using hc0
    rw [List.drop_eq_nil_of_le (by omega)] at hR
    refine WC.exit (WE.then_exit (WE.then_exit (WE.block_hit ?_)))
    refine WE.end0 rfl fun w' hw => ?_
    exact .inl ⟨g.2.1, g.2.2, rfl, by rw [hR]; rfl, hmg, hw⟩
theorem next_any (gb : Nat) (HT : View) (r : Option Addr × Nat) (l : Tk) (k : Int) (w : World) (hm : Sl rdTok 3 HT r.1 r.2 l) (hw : Ws w (List.flatMap Asr.ids (glassL gb r l)) (glassL gb r l) [HT] w) :
    Calls Tryz.prog 78 #[.pointer (some ⟨gb, 0, none⟩), .int .i64 k] w fun e w' => (∃ (t : Tok) (r2 : Option Addr × Nat) (q : Tk), e = .returned (.agg #[.int .i64 t.kind, .int .i64 t.n, st t.text]) ∧ nextT k l = some (t, q) ∧ Sl rdTok 3 HT r2.1 r2.2 q ∧ Ws w (List.flatMap Asr.ids (glassL gb r l)) (glassL gb r2 q) [HT] w') ∨ (∃ (r2 : Option Addr × Nat) (q : Tk), e = .panicked brk ∧ nextT k l = none ∧ Ws w (List.flatMap Asr.ids (glassL gb r l)) (glassL gb r2 q) [HT] w') := by
  have hcap := hm.cap
  have hmax := hm.max
  have hd1 := hm.drop 1
  refine enter Tryz.func78 rfl 40 rfl rfl ?_
  refine WC.world (W' := Ws w (List.flatMap Asr.ids (glassL gb r l)) (glassL gb r l) [HT]) (fun _ e => by subst e; exact hw) ?_
  refine WC.seq (WC.region ?_)
  refine WL.alloc (.inl rfl) rfl zr66 fun b4 => ?_
  refine WL.nil (WE.then_normal (WC.seq (WC.seq (WC.region ?_))))
  refine WL.val (.inl rfl) rfl (yl_move rfl) ?_
  refine WL.val (.inl rfl) rfl (yl_nil rfl) ?_
  refine WL.val (.inl rfl) rfl (yl_fa fo73_0 rfl) ?_
  refine WL.val (.inl rfl) rfl (yl_ldk 1 rfl rfl rfl na61) ?_
  refine WL.val (.inl rfl) rfl (yl_len es61 rfl) ?_
  refine WL.val (.inl rfl) rfl (yl_eq rfl rfl) ?_
  refine WL.val (.inl rfl) rfl (yl_move rfl) ?_
  apply WL.or 9 (x := (!((l.head?.map fun t => t.kind == k).getD false))) rfl rfl rfl rfl (.inl rfl) rfl rfl rfl rfl rfl
  ·
    intro hg0
    obtain ⟨t, r0, rfl⟩ : ∃ t r0, l = t :: r0 := by
      cases l with
      | nil => simp at hg0
      | cons t r0 => exact ⟨t, r0, rfl⟩
    obtain ⟨pbt, pot, hat, hrt⟩ := hm.elt 0 t rfl
    have hrt : RdC HT pbt (pot + 0 * 3) t.cells := hrt
    refine WL.val (.inr ⟨_, _, _, rfl, rfl, rfl⟩) rfl (yl_move rfl) ?_
    refine WL.val (.inr ⟨_, _, _, rfl, rfl, rfl⟩) rfl (yl_nil rfl) ?_
    refine WL.val (.inr ⟨_, _, _, rfl, rfl, rfl⟩) rfl (yl_fa fo73_0 rfl) ?_
    refine WL.val (.inr ⟨_, _, _, rfl, rfl, rfl⟩) rfl (yl_ldk 1 rfl rfl rfl na61) ?_
    refine WL.val (.inr ⟨_, _, _, rfl, rfl, rfl⟩) rfl (yl_iao (i := 0) es61 rfl rfl hat (by simp)) ?_
    refine WL.val (.inr ⟨_, _, _, rfl, rfl, rfl⟩) rfl (yl_fa fo66_0 rfl) ?_
    refine WL.val (.inr ⟨_, _, _, rfl, rfl, rfl⟩) rfl (yl_ld 0 na3 rfl rfl (hrt 0 _ rfl)) ?_
    refine WL.val (.inr ⟨_, _, _, rfl, rfl, rfl⟩) rfl (yl_move rfl) ?_
    refine WL.val (.inr ⟨_, _, _, rfl, rfl, rfl⟩) rfl (yl_ne rfl rfl) ?_
    exact Got.intro 9 rfl rfl rfl
  refine WL.nil (WE.then_normal ?_)
  refine WC.cond rfl (fun hc0 => ?_) (fun hc0 => ?_)
  ·
    have hno : nextT k l = none := by
      cases l with
      | nil => rfl
      | cons t r0 =>
        simp only [nextT]
        rw [if_neg]
        intro h
        simp [h] at hc0
        omega
    refine WC.region ?_
    refine WL.val (.inl rfl) rfl (yl_build zr75 pl75 rfl rfl) ?_
    refine WL.val (.inl rfl) rfl (yl_mki co75 rfl) ?_
    refine WL.panic (.inl rfl) rfl ?_
    refine WE.then_panic ?_
    refine WE.panics fun w' hw => ?_
    exact .inr ⟨r, l, rfl, hno, (by have h := hw; have h := h.fronti 1 rfl; have h := Ws.keep (L := [_]) h; exact h)⟩
  ·
    obtain ⟨t, r0, rfl⟩ : ∃ t r0, l = t :: r0 := by
      cases l with
      | nil => simp at hc0
      | cons t r0 => exact ⟨t, r0, rfl⟩
    have hk : t.kind = k := by simp at hc0; exact hc0.2
    have hyes : nextT k (t :: r0) = some (t, r0) := by simp only [nextT]; rw [if_pos hk]
    have hd1 := hd1 (by simp)
    obtain ⟨pbt, pot, hat, hrt⟩ := hm.elt 0 t rfl
    have hrt : RdC HT pbt (pot + 0 * 3) t.cells := hrt
    refine WC.skip (WE.then_normal (WC.seq (WC.region ?_)))
    refine WL.val (.inl rfl) rfl (yl_move rfl) ?_
    refine WL.val (.inl rfl) rfl (yl_nil rfl) ?_
    refine WL.val (.inl rfl) rfl (yl_fa fo73_0 rfl) ?_
    refine WL.val (.inl rfl) rfl (yl_ldk 1 rfl rfl rfl na61) ?_
    refine WL.val (.inl rfl) rfl (yl_iao (i := 0) es61 rfl rfl hat (by simp)) ?_
    refine WL.val (.inl rfl) rfl (yl_lda 0 ag66 rfl rfl rfl (hrt)) ?_
    refine WL.alloc (.inl rfl) rfl zr66 fun b5 => ?_
    refine WL.store 0 (.inl rfl) rfl rfl rfl sz66 rfl rfl rfl ?_
    refine WL.nil (WE.then_normal (WC.seq (WC.region ?_)))
    refine WL.val (.inl rfl) rfl (yl_move rfl) ?_
    refine WL.val (.inl rfl) rfl (yl_move rfl) ?_
    refine WL.val (.inl rfl) rfl (yl_nil rfl) ?_
    refine WL.val (.inl rfl) rfl (yl_fa fo73_0 rfl) ?_
    refine WL.val (.inl rfl) rfl (yl_ldk 2 rfl rfl rfl na61) ?_
    refine WL.val (.inl rfl) rfl (yl_slln 1 es61 rfl rfl rfl (by simp) hcap) ?_
    refine WL.val (.inl rfl) rfl (yl_nil rfl) ?_
    refine WL.val (.inl rfl) rfl (yl_fa fo73_0 rfl) ?_
    refine WL.store 2 (.inl rfl) rfl rfl rfl sz61 rfl rfl rfl ?_
    refine WL.nil (WE.then_normal (WC.seq (WC.region ?_)))
    refine WL.val (.inl rfl) rfl (yl_ldka 0 rfl rfl ag66 rfl) ?_
    refine WL.store 1 (.inl rfl) rfl rfl rfl sz66 rfl rfl rfl ?_
    refine WL.nil (WE.then_normal (WC.ret ?_))
    refine WE.retR (rs_1 rfl (rv_agg 1 rfl rfl ag66 rfl)) fun w' hw => ?_
    exact .inl ⟨t, (if r.2 - 1 = 0 then r.1 else r.1.map (·.add (1 * 3)), r.2 - 1), r0, rfl, hyes, hd1, Ws.drop (L := [_, _]) hw⟩
theorem gname_any (gb : Nat) (HT : View) (r : Option Addr × Nat) (l : Tk) (w : World) (hm : Sl rdTok 3 HT r.1 r.2 l) (hw : Ws w (List.flatMap Asr.ids (glassL gb r l)) (glassL gb r l) [HT] w) :
    Calls Tryz.prog 51 #[.pointer (some ⟨gb, 0, none⟩)] w fun e w' => (∃ (s : Tx) (r2 : Option Addr × Nat) (q : Tk), e = .returned (st s) ∧ namP l = some (s, q) ∧ Sl rdTok 3 HT r2.1 r2.2 q ∧ Ws w (List.flatMap Asr.ids (glassL gb r l)) (glassL gb r2 q) [HT] w') ∨ (∃ (r2 : Option Addr × Nat) (q : Tk), e = .panicked brk ∧ namP l = none ∧ Ws w (List.flatMap Asr.ids (glassL gb r l)) (glassL gb r2 q) [HT] w') := by
  refine enter Tryz.func51 rfl 13 rfl rfl ?_
  refine WC.world (W' := Ws w (List.flatMap Asr.ids (glassL gb r l)) (glassL gb r l) [HT]) (fun _ e => by subst e; exact hw) ?_
  refine WC.seq (WC.region ?_)
  refine WL.val (.inl rfl) rfl (yl_assign rfl) ?_
  refine WL.nil (WE.then_normal (WC.seq (WC.region ?_)))
  refine WL.val (.inl rfl) rfl (yl_move rfl) ?_
  refine WL.front 0 rfl ?_
  refine WL.callwx (ι := Tok × (Option Addr × Nat) × Tk) (κ := (Option Addr × Nat) × Tk) [_] _ (.inl rfl) rfl en78 rfl rfl (fun i => .agg #[.int .i64 i.1.kind, .int .i64 i.1.n, st i.1.text]) (fun i => glassL gb i.2.1 i.2.2) (fun i => nextT 1 l = some (i.1, i.2.2) ∧ Sl rdTok 3 HT i.2.1.1 i.2.1.2 i.2.2) (fun _ => brk) (fun i => glassL gb i.1 i.2) (fun _ => nextT 1 l = none) ([HT]) (by simp) (fun w hw => (next_any gb HT r l 1 w hm hw).mono fun e w' h => by
      rcases h with ⟨t, r2, q, h1, h2, h3, h4⟩ | ⟨r2, q, h1, h2, h3⟩
      · exact .inl ⟨(t, r2, q), h1, ⟨h2, h3⟩, h4⟩
      · exact .inr ⟨(r2, q), h1, h2, h3⟩) ?_ ?_
  ·
    intro ⟨rp, qp⟩ hp
    refine WE.then_panic ?_
    refine WE.panics fun w' hw => ?_
    exact .inr ⟨rp, qp, rfl, by unfold namP; rw [hp]; rfl, (by have h := hw; exact h)⟩
  intro ⟨t5, r5, q5⟩ ⟨hq5, hm5⟩
  refine WL.val (.inl rfl) rfl (yl_field fld66_2 rfl rfl) ?_
  refine WL.val (.inl rfl) rfl (yl_assign rfl) ?_
  refine WL.nil (WE.then_normal (WC.seq (WC.seq (WC.region ?_))))
  refine WL.val (.inl rfl) rfl (yl_move rfl) ?_
  refine WL.callp (.inl rfl) rfl en36 rfl (fun w hw => treeName_any _ w) ?_
  refine WL.val (.inl rfl) rfl (yl_not rfl) ?_
  refine WL.nil (WE.then_normal ?_)
  refine WC.cond rfl (fun hc0 => ?_) (fun hc0 => ?_)
  ·
    have hno : namP l = none := by unfold namP; rw [hq5]; simp only [Option.bind_some]; rw [if_neg (by simpa using hc0)]
    refine WC.region ?_
    refine WL.val (.inl rfl) rfl (yl_build zr75 pl75 rfl rfl) ?_
    refine WL.val (.inl rfl) rfl (yl_mki co75 rfl) ?_
    refine WL.panic (.inl rfl) rfl ?_
    refine WE.then_panic ?_
    refine WE.panics fun w' hw => ?_
    exact .inr ⟨r5, q5, rfl, hno, (by have h := hw; exact h)⟩
  ·
    have hyes : namP l = some (t5.text, q5) := by unfold namP; rw [hq5]; simp only [Option.bind_some]; rw [if_pos (by simpa using hc0)]
    refine WC.skip (WE.then_normal (WC.seq (WC.region ?_)))
    refine WL.val (.inl rfl) rfl (yl_move rfl) ?_
    refine WL.val (.inl rfl) rfl (yl_assign rfl) ?_
    refine WL.nil (WE.then_normal (WC.ret ?_))
    refine WE.ret1 rfl rfl fun w' hw => ?_
    exact .inl ⟨t5.text, r5, q5, rfl, hyes, hm5, hw⟩
theorem gnum_any (gb : Nat) (HT : View) (r : Option Addr × Nat) (l : Tk) (w : World) (hm : Sl rdTok 3 HT r.1 r.2 l) (hw : Ws w (List.flatMap Asr.ids (glassL gb r l)) (glassL gb r l) [HT] w) :
    Calls Tryz.prog 79 #[.pointer (some ⟨gb, 0, none⟩)] w fun e w' => (∃ (n : Int) (r2 : Option Addr × Nat) (q : Tk), e = .returned (.int .i64 n) ∧ numP l = some (n, q) ∧ Sl rdTok 3 HT r2.1 r2.2 q ∧ Ws w (List.flatMap Asr.ids (glassL gb r l)) (glassL gb r2 q) [HT] w') ∨ (∃ (r2 : Option Addr × Nat) (q : Tk), e = .panicked brk ∧ numP l = none ∧ Ws w (List.flatMap Asr.ids (glassL gb r l)) (glassL gb r2 q) [HT] w') := by
  refine enter Tryz.func79 rfl 6 rfl rfl ?_
  refine WC.world (W' := Ws w (List.flatMap Asr.ids (glassL gb r l)) (glassL gb r l) [HT]) (fun _ e => by subst e; exact hw) ?_
  refine WC.seq (WC.region ?_)
  refine WL.val (.inl rfl) rfl (yl_assign rfl) ?_
  refine WL.nil (WE.then_normal (WC.seq (WC.region ?_)))
  refine WL.val (.inl rfl) rfl (yl_move rfl) ?_
  refine WL.front 0 rfl ?_
  refine WL.callwx (ι := Tok × (Option Addr × Nat) × Tk) (κ := (Option Addr × Nat) × Tk) [_] _ (.inl rfl) rfl en78 rfl rfl (fun i => .agg #[.int .i64 i.1.kind, .int .i64 i.1.n, st i.1.text]) (fun i => glassL gb i.2.1 i.2.2) (fun i => nextT 2 l = some (i.1, i.2.2) ∧ Sl rdTok 3 HT i.2.1.1 i.2.1.2 i.2.2) (fun _ => brk) (fun i => glassL gb i.1 i.2) (fun _ => nextT 2 l = none) ([HT]) (by simp) (fun w hw => (next_any gb HT r l 2 w hm hw).mono fun e w' h => by
      rcases h with ⟨t, r2, q, h1, h2, h3, h4⟩ | ⟨r2, q, h1, h2, h3⟩
      · exact .inl ⟨(t, r2, q), h1, ⟨h2, h3⟩, h4⟩
      · exact .inr ⟨(r2, q), h1, h2, h3⟩) ?_ ?_
  ·
    intro ⟨rp, qp⟩ hp
    refine WE.then_panic ?_
    refine WE.panics fun w' hw => ?_
    exact .inr ⟨rp, qp, rfl, by unfold numP; rw [hp]; rfl, (by have h := hw; exact h)⟩
  intro ⟨t4, r4, q4⟩ ⟨hq4, hm4⟩
  refine WL.val (.inl rfl) rfl (yl_field fld66_1 rfl rfl) ?_
  refine WL.val (.inl rfl) rfl (yl_assign rfl) ?_
  refine WL.nil (WE.then_normal (WC.ret ?_))
  refine WE.ret1 rfl rfl fun w' hw => ?_
  exact .inl ⟨t4.n, r4, q4, rfl, by unfold numP; rw [hq4]; rfl, hm4, hw⟩
theorem gref_any (gb : Nat) (HT : View) (r : Option Addr × Nat) (l : Tk) (w : World) (hok : TOk l) (hm : Sl rdTok 3 HT r.1 r.2 l) (hw : Ws w (List.flatMap Asr.ids (glassL gb r l)) (glassL gb r l) [HT] w) :
    Calls Tryz.prog 104 #[.pointer (some ⟨gb, 0, none⟩)] w fun e w' => (∃ (p : Tx × Tx) (r2 : Option Addr × Nat) (q : Tk), e = .returned (.tuple #[st p.1, st p.2]) ∧ refP l = some (p, q) ∧ Sl rdTok 3 HT r2.1 r2.2 q ∧ Ws w (List.flatMap Asr.ids (glassL gb r l)) (glassL gb r2 q) [HT] w') ∨ (∃ (r2 : Option Addr × Nat) (q : Tk), e = .panicked brk ∧ refP l = none ∧ Ws w (List.flatMap Asr.ids (glassL gb r l)) (glassL gb r2 q) [HT] w') := by
  refine enter Tryz.func104 rfl 13 rfl rfl ?_
  refine WC.world (W' := Ws w (List.flatMap Asr.ids (glassL gb r l)) (glassL gb r l) [HT]) (fun _ e => by subst e; exact hw) ?_
  refine WC.seq (WC.region ?_)
  refine WL.val (.inl rfl) rfl (yl_assign rfl) ?_
  refine WL.val (.inl rfl) rfl (yl_assign rfl) ?_
  refine WL.nil (WE.then_normal (WC.seq (WC.region ?_)))
  refine WL.val (.inl rfl) rfl (yl_move rfl) ?_
  refine WL.front 0 rfl ?_
  refine WL.callwx (ι := (Tx) × (Option Addr × Nat) × Tk) (κ := (Option Addr × Nat) × Tk) [_] _ (.inl rfl) rfl en51 rfl rfl (fun i => st i.1) (fun i => glassL gb i.2.1 i.2.2) (fun i => namP l = some (i.1, i.2.2) ∧ Sl rdTok 3 HT i.2.1.1 i.2.1.2 i.2.2) (fun _ => brk) (fun i => glassL gb i.1 i.2) (fun _ => namP l = none) ([HT]) (by simp) (fun w hw => (gname_any gb HT r l w hm hw).mono fun e w' h => by
      rcases h with ⟨t, r2, q, h1, h2, h3, h4⟩ | ⟨r2, q, h1, h2, h3⟩
      · exact .inl ⟨(t, r2, q), h1, ⟨h2, h3⟩, h4⟩
      · exact .inr ⟨(r2, q), h1, h2, h3⟩) ?_ ?_
  ·
    intro ⟨rp, qp⟩ hp
    refine WE.then_panic ?_
    refine WE.panics fun w' hw => ?_
    exact .inr ⟨rp, qp, rfl, by unfold refP; rw [hp]; rfl, (by have h := hw; exact h)⟩
  intro ⟨s6, r6, q6⟩ ⟨hq6, hm6⟩
  have ok6 := tNam hok hq6
  refine WL.val (.inl rfl) rfl (yl_assign rfl) ?_
  refine WL.nil (WE.then_normal (WC.seq (WC.seq (WC.region ?_))))
  refine WL.val (.inl rfl) rfl (yl_move rfl) ?_
  refine WL.front 0 rfl ?_
  refine WL.callw (ι := Bool × (Option Addr × Nat) × Tk) [_] _ (.inl rfl) rfl en52 rfl rfl (fun i => .bool i.1) (fun i => glassL gb i.2.1 i.2.2) (fun i => (i.1 = true → hasT [46] q6 = some i.2.2) ∧ (i.1 = false → hasT [46] q6 = none ∧ q6 = i.2.2) ∧ Sl rdTok 3 HT i.2.1.1 i.2.1.2 i.2.2) [HT] (by simp) (fun w hw => has_any gb HT r6 q6 [46] w hm6 hw) ?_
  intro ⟨b8, r8, q8⟩ ⟨h8t, h8f, hm8⟩
  refine WL.nil (WE.then_normal ?_)
  refine WC.cond rfl (fun hc0 => ?_) (fun hc0 => ?_)
  ·
    have hq8 := h8t hc0
    have ok8 := tHas ok6 hq8
    refine WC.seq (WC.region ?_)
    refine WL.val (.inl rfl) rfl (yl_move rfl) ?_
    refine WL.val (.inl rfl) rfl (yl_move rfl) ?_
    refine WL.front 0 rfl ?_
    refine WL.callwx (ι := (Tx) × (Option Addr × Nat) × Tk) (κ := (Option Addr × Nat) × Tk) [_] _ (.inl rfl) rfl en51 rfl rfl (fun i => st i.1) (fun i => glassL gb i.2.1 i.2.2) (fun i => namP q8 = some (i.1, i.2.2) ∧ Sl rdTok 3 HT i.2.1.1 i.2.1.2 i.2.2) (fun _ => brk) (fun i => glassL gb i.1 i.2) (fun _ => namP q8 = none) ([HT]) (by simp) (fun w hw => (gname_any gb HT r8 q8 w hm8 hw).mono fun e w' h => by
        rcases h with ⟨t, r2, q, h1, h2, h3, h4⟩ | ⟨r2, q, h1, h2, h3⟩
        · exact .inl ⟨(t, r2, q), h1, ⟨h2, h3⟩, h4⟩
        · exact .inr ⟨(r2, q), h1, h2, h3⟩) ?_ ?_
    ·
      intro ⟨rp, qp⟩ hp
      refine WE.then_panic ?_
      refine WE.then_panic ?_
      refine WE.panics fun w' hw => ?_
      exact .inr ⟨rp, qp, rfl, by unfold refP; rw [hq6]; simp only [Option.bind_some]; rw [hq8]; simp only; rw [hp]; rfl, (by have h := hw; exact h)⟩
    intro ⟨s11, r11, q11⟩ ⟨hq11, hm11⟩
    have ok11 := tNam ok8 hq11
    refine WL.val (.inl rfl) rfl (yl_assign rfl) ?_
    refine WL.val (.inl rfl) rfl (yl_assign rfl) ?_
    refine WL.nil (WE.then_normal (WC.ret (WE.then_ret ?_)))
    refine WE.ret2 rfl rfl rfl fun w' hw => ?_
    exact .inl ⟨(s6, s11), r11, q11, rfl, by unfold refP; rw [hq6]; simp only [Option.bind_some]; rw [hq8]; simp only; rw [hq11]; rfl, hm11, hw⟩
  ·
    obtain ⟨hn8, hl8⟩ := h8f hc0
    subst hl8
    refine WC.skip (WE.then_normal (WC.seq (WC.region ?_)))
    refine WL.val (.inl rfl) rfl (yl_move rfl) ?_
    refine WL.val (.inl rfl) rfl (yl_assign rfl) ?_
    refine WL.val (.inl rfl) rfl (yl_assign rfl) ?_
    refine WL.nil (WE.then_normal (WC.ret ?_))
    refine WE.ret2 rfl rfl rfl fun w' hw => ?_
    exact .inl ⟨([], s6), r8, q6, rfl, by unfold refP; rw [hq6]; simp only [Option.bind_some]; rw [hn8], hm8, hw⟩
end Go.Proofs.YtjfldjidhkfnbaaGreatDoor
end
section
namespace Go.Proofs.YtjfldjidhkfnbaaGreatDoor
open Go.Bw
set_option linter.unusedVariables false
set_option linter.unusedSimpArgs false
abbrev XE := TExpr × Option Addr × Nat
def XE.cells (e : XE) : List Value := exprV e.1 e.2.1 e.2.2
theorem XE.cells_len (e : XE) : (XE.cells e).length = 5 := rfl
theorem XE.one (e : XE) : (XE.cells e).all (·.oneCell') = true := rfl
def rdXE (H : View) (b o : Nat) (e : XE) : Prop := RdC H b o (XE.cells e)
def XEs (J : View) (f : Nat) (es : List XE) : Prop := ∀ e ∈ es, Sl (RdE f) 5 J e.2.1 e.2.2 e.1.args
theorem XEs.nil (J : View) (f : Nat) : XEs J f [] := by intro e h; simp at h
theorem XEs.snoc {J J1 J2 : View} {f : Nat} {es : List XE} {e : XE} (h : XEs J f es) (h1 : VLe J J2) (h2 : VLe J1 J2) (he : Sl (RdE f) 5 J1 e.2.1 e.2.2 e.1.args) : XEs J2 f (es ++ [e]) := by
  intro x hx
  rcases List.mem_append.1 hx with hx | hx
  · exact (h x hx).imp fun b o y hy => RdE_mono h1 (Nat.le_refl _) b o y hy
  · rw [List.mem_singleton] at hx
    subst hx
    exact he.imp fun b o y hy => RdE_mono h2 (Nat.le_refl _) b o y hy
theorem slE_of {H J N : View} {f c : Nat} {a : Option Addr} {es : List XE} (h : Sl rdXE 5 H a c es) (hv : VLe H N) (hJ : VLe J N) (hes : XEs J f es) : Sl (RdE (f + 1)) 5 N a c (es.map (·.1)) := by
  refine ⟨by simpa using h.cap, h.max, h.spot, fun i x hx => ?_⟩
  rw [List.getElem?_map] at hx
  obtain ⟨e, he, rfl⟩ := Option.map_eq_some_iff.1 hx
  obtain ⟨b, o, h1, h2⟩ := h.elt i e he
  exact ⟨b, o, h1, e.2.1, e.2.2, RdC.mono hv h2, (hes e (List.mem_of_getElem? he)).imp fun b o y hy => RdE_mono hJ (Nat.le_refl _) b o y hy⟩
theorem slE_mv {H N : View} {f c : Nat} {a : Option Addr} {l : List TExpr} (h : Sl (RdE f) 5 H a c l) (hv : VLe H N) : Sl (RdE f) 5 N a c l := h.imp fun b o y hy => RdE_mono hv (Nat.le_refl _) b o y hy
structure GA where
  es : List XE
  a : Option Addr
  c : Nat
  J : View
  r : Option Addr × Nat
  q : Tk
def GlassE (HT : View) (f : Nat) : Prop := ∀ (gb : Nat) (r : Option Addr × Nat) (l : Tk) (d : Nat) (w : World), f + d = 7 → TOk l → Sl rdTok 3 HT r.1 r.2 l → Ws w (List.flatMap Asr.ids (glassL gb r l)) (glassL gb r l) [HT] w →
  Calls Tryz.prog 103 #[.pointer (some ⟨gb, 0, none⟩), .int .i64 (d : Int)] w fun e w' => (∃ (x : TExpr) (s : Option Addr × Nat) (r2 : Option Addr × Nat) (q : Tk), e = .returned (.agg #[.int .i64 (x).op, .int .i64 (x).n, st (x).mod, st (x).nm, .slice s.1 (x).args.length s.2]) ∧ exprP f l = some (x, q) ∧ Sl (RdE f) 5 (nv w w') s.1 s.2 x.args ∧ Sl rdTok 3 HT r2.1 r2.2 q ∧ Ws w (List.flatMap Asr.ids (glassL gb r l)) (glassL gb r2 q) [HT] w') ∨ (∃ (r2 : Option Addr × Nat) (q : Tk), e = .panicked brk ∧ exprP f l = none ∧ Ws w (List.flatMap Asr.ids (glassL gb r l)) (glassL gb r2 q) [HT] w')
theorem argsL_some {pe : Tk → Option (TExpr × Tk)} {n : Nat} {l q q2 : Tk} {x : TExpr} (h1 : pe l = some (x, q)) (h2 : hasT [41] q = some q2) : argsL pe (n + 1) l = some ([x], q2) := by rw [argsL, h1]; simp only [Option.bind_some]; rw [h2]
theorem argsL_more {pe : Tk → Option (TExpr × Tk)} {n : Nat} {l q q2 : Tk} {x : TExpr} (h1 : pe l = some (x, q)) (h2 : hasT [41] q = none) (h3 : hasT [44] q = some q2) : argsL pe (n + 1) l = (argsL pe n q2).map fun p => (x :: p.1, p.2) := by rw [argsL, h1]; simp only [Option.bind_some]; rw [h2]; simp only; rw [h3]
theorem argsL_bad {pe : Tk → Option (TExpr × Tk)} {n : Nat} {l q : Tk} {x : TExpr} (h1 : pe l = some (x, q)) (h2 : hasT [41] q = none) (h3 : hasT [44] q = none) : argsL pe (n + 1) l = none := by rw [argsL, h1]; simp only [Option.bind_some]; rw [h2]; simp only; rw [h3]
theorem argsL_no {pe : Tk → Option (TExpr × Tk)} {n : Nat} {l : Tk} (h1 : pe l = none) : argsL pe (n + 1) l = none := by rw [argsL, h1]; rfl
theorem opP_hit : ∀ (ws : List Tx) (i k : Nat) (w : Tx) (l q : Tk), ws[i]? = some w → (∀ j v, j < i → ws[j]? = some v → hasT v l = none) → hasT w l = some q → opP ws k l = some (k + i, q)
  | [], i, k, w, l, q, h, _, _ => by simp at h
  | v :: ws, 0, k, w, l, q, h, _, hq => by
    simp at h; subst h
    rw [opP, hq]; rfl
  | v :: ws, i + 1, k, w, l, q, h, hn, hq => by
    rw [opP, hn 0 v (by omega) rfl]
    simp only
    rw [opP_hit ws i (k + 1) w l q (by simpa using h) (fun j u hj hu => hn (j + 1) u (by omega) (by simpa using hu)) hq]
    congr 2
    omega
theorem opP_miss : ∀ (ws : List Tx) (k : Nat) (l : Tk), (∀ w ∈ ws, hasT w l = none) → opP ws k l = none
  | [], _, _, _ => rfl
  | w :: ws, k, l, h => by
    rw [opP, h w (by simp)]
    exact opP_miss ws (k + 1) l fun v hv => h v (List.mem_cons_of_mem _ hv)
theorem opsA_get {i : Nat} {w : Tx} (h : opsL[i]? = some w) : ((opsL.map st).toArray)[i]? = some (st w) := by
  rw [List.getElem?_toArray, List.getElem?_map, h]; rfl
theorem en103 : Enters Tryz.prog 103 := enters_of Tryz.func103 (by kernel_rfl) rfl
theorem el41 : EltOk Tryz.prog 41 81 (.agg #[.int .i64 0, .int .i64 0, st [], st [], .slice none 0 0]) 5 72 := eltOk_of (by kernel_rfl)
theorem en50 : Enters Tryz.prog 50 := enters_of Tryz.func50 (by kernel_rfl) rfl
theorem gargs_any (gb : Nat) (HT : View) (r : Option Addr × Nat) (l : Tk) (f d : Nat) (w : World) (hE : GlassE HT f) (hfd : f + d = 7) (hok : TOk l) (hm : Sl rdTok 3 HT r.1 r.2 l) (hw : Ws w (List.flatMap Asr.ids (glassL gb r l)) (glassL gb r l) [HT] w) :
    Calls Tryz.prog 105 #[.pointer (some ⟨gb, 0, none⟩), .int .i64 (d : Int)] w fun e w' => (∃ (xs : List TExpr) (s : Option Addr × Nat) (r2 : Option Addr × Nat) (q : Tk), e = .returned (.slice s.1 xs.length s.2) ∧ argsP (exprP f) l = some (xs, q) ∧ Sl (RdE (f + 1)) 5 (nv w w') s.1 s.2 xs ∧ Sl rdTok 3 HT r2.1 r2.2 q ∧ Ws w (List.flatMap Asr.ids (glassL gb r l)) (glassL gb r2 q) [HT] w') ∨ (∃ (r2 : Option Addr × Nat) (q : Tk), e = .panicked brk ∧ argsP (exprP f) l = none ∧ Ws w (List.flatMap Asr.ids (glassL gb r l)) (glassL gb r2 q) [HT] w') := by
  refine enter Tryz.func105 rfl 21 rfl rfl ?_
  refine WC.world (W' := Ws w (List.flatMap Asr.ids (glassL gb r l)) (glassL gb r l) [HT]) (fun _ e => by subst e; exact hw) ?_
  refine WC.seq (WC.region ?_)
  refine WL.val (.inl rfl) rfl (yl_assign rfl) ?_
  refine WL.nil (WE.then_normal (WC.seq (WC.region ?_)))
  refine WL.val (.inl rfl) rfl (yl_assign rfl) ?_
  refine WL.world (fun _ h => h.osl_nil 81 5) ?_
  refine WL.v0 ?_
  refine WL.nil (WE.then_normal (WC.seq (WC.seq (WC.region ?_))))
  refine WL.val (.inl rfl) rfl (yl_move rfl) ?_
  refine WL.front 1 rfl ?_
  refine WL.callw (ι := Bool × (Option Addr × Nat) × Tk) [_] _ (.inl rfl) rfl en52 rfl rfl (fun i => .bool i.1) (fun i => glassL gb i.2.1 i.2.2) (fun i => (i.1 = true → hasT [41] l = some i.2.2) ∧ (i.1 = false → hasT [41] l = none ∧ l = i.2.2) ∧ Sl rdTok 3 HT i.2.1.1 i.2.1.2 i.2.2) [HT] (by simp) (fun w hw => has_any gb HT r l [41] w hm hw) ?_
  intro ⟨b7, r7, q7⟩ ⟨h7t, h7f, hm7⟩
  refine WL.nil (WE.then_normal ?_)
  refine WC.cond rfl (fun hc0 => ?_) (fun hc0 => ?_)
  ·
    have hq7 := h7t hc0
    have ok7 := tHas hok hq7
    refine WC.seq (WC.region ?_)
    refine WL.val (.inl rfl) rfl (yl_move rfl) ?_
    refine WL.val (.inl rfl) rfl (yl_assign rfl) ?_
    refine WL.nil (WE.then_normal (WC.ret (WE.then_ret ?_)))
    refine WE.ret1 rfl rfl fun w' hw => ?_
    exact .inl ⟨[], (none, 0), r7, q7, rfl, by rw [argsP, hq7], Sl.nil, hm7, Ws.drops (Ws.keep (L := [_]) hw) (fun _ hm => List.mem_append_right [_] hm)⟩
  ·
    obtain ⟨hn7, hl7⟩ := h7f hc0
    subst hl7
    refine WC.skip (WE.then_normal (WC.block ?_))
    refine WC.loopK (ι := GA) (fun g => [(5, .slice g.a g.es.length g.c)]) [(0, _), (1, _)] (fun g => Ws w (List.flatMap Asr.ids (glassL gb r l)) (glassL gb g.r g.q ++ [osT 81 5 XE.cells g.a g.c g.es]) [g.J, HT]) (fun g => (g.es.length + g.q.length ≤ l.length ∧ TOk g.q) ∧ Sl rdTok 3 HT g.r.1 g.r.2 g.q ∧ (Fresh w g.J ∧ XEs g.J f g.es) ∧ ∃ n, g.q.length < n ∧ argsP (exprP f) l = (argsL (exprP f) n g.q).map fun p => (g.es.map (·.1) ++ p.1, p.2)) (fun g => g.q.length) ⟨[], none, 0, v0, r7, l⟩ ⟨⟨by simp, hok⟩, hm7, ⟨v0_fresh w, XEs.nil _ _⟩, l.length + 1, by simp, by rw [argsP, hn7]; simp⟩ (sc rfl (sc rfl (sc rfl sn))) (fun _ h => by have h := h.fronti 1 rfl; have h := h.fronti 1 rfl; have h := Ws.drops h (Vs' := [v0, HT]) (by simp); exact h) ?_
    intro g ⟨⟨hlen, hokg⟩, hmg, ⟨hfJ, hXE⟩, hA⟩
    refine WC.block (WC.seq (WC.region ?_))
    refine WL.val (.inl rfl) rfl (yl_move rfl) ?_
    refine WL.val (.inl rfl) rfl (yl_move rfl) ?_
    refine WL.val (.inl rfl) rfl (yl_move rfl) ?_
    refine WL.front 0 rfl ?_
    refine WL.callwdx (ι := (TExpr × (Option Addr × Nat)) × (Option Addr × Nat) × Tk) (κ := (Option Addr × Nat) × Tk) [_] _ (.inl rfl) rfl en103 rfl rfl (fun i => .agg #[.int .i64 (i.1.1).op, .int .i64 (i.1.1).n, st (i.1.1).mod, st (i.1.1).nm, .slice i.1.2.1 (i.1.1).args.length i.1.2.2]) (fun i => glassL gb i.2.1 i.2.2) (fun F i => exprP f g.q = some (i.1.1, i.2.2) ∧ Sl (RdE f) 5 F i.1.2.1 i.1.2.2 i.1.1.args ∧ Sl rdTok 3 HT i.2.1.1 i.2.1.2 i.2.2) (fun _ => brk) (fun i => glassL gb i.1 i.2) (fun _ => exprP f g.q = none) ([HT]) (by simp) (fun _ _ h => h) (fun w hw => (hE gb g.r g.q d w hfd hokg hmg hw).mono fun e w' h => by
        rcases h with ⟨x, s, r2, q, h1, h2, h3, h4, h5⟩ | ⟨r2, q, h1, h2, h3⟩
        · exact .inl ⟨((x, s), r2, q), h1, ⟨h2, h3, h4⟩, h5⟩
        · exact .inr ⟨(r2, q), h1, h2, h3⟩) ?_ ?_
    ·
      intro ⟨rp, qp⟩ hp
      refine WE.then_panic ?_
      refine WE.block_panic ?_
      refine WE.then_panic ?_
      refine WE.block_panic ?_
      refine WE.panics fun w' hw => ?_
      obtain ⟨n, hn, hA⟩ := hA
      obtain ⟨n, rfl⟩ : ∃ k, n = k + 1 := ⟨n - 1, by omega⟩
      exact .inr ⟨rp, qp, rfl, by rw [hA, argsL_no hp]; rfl, (by have h := hw; have h := Ws.keep (L := [_]) h; have h := Ws.drops h (Vs' := [HT]) (by simp); exact h)⟩
    intro F12 ⟨⟨x12, s12⟩, r12, q12⟩ hf12 ⟨hq12, hx12, hm12⟩
    have ok12 : TOk q12 := tExpr hokg hq12
    have le12 : q12.length + 1 ≤ List.length (g.q) := expr_len hokg hq12
    refine WL.vjoin fun J12 j12a j12b j12f => ?_
    refine WL.bsliceF (.inl rfl) rfl el41 rfl rfl rfl rfl fun b13 => ?_
    refine WL.reblk 0 (.cells (XE.cells (x12, s12.1, s12.2)).toArray 81 (0, 0)) rfl rfl ?_
    refine WL.appT ((x12, s12.1, s12.2) : XE) 2 0 (.inl rfl) rfl el41 rfl rfl rfl rfl rfl rfl (by have := hok.len; omega) (by have := hok.len; omega) fun a14 c14 => ?_
    refine WL.val (.inl rfl) rfl (yl_assign rfl) ?_
    refine WL.nil (WE.then_normal (WC.seq (WC.seq (WC.region ?_))))
    refine WL.val (.inl rfl) rfl (yl_move rfl) ?_
    refine WL.front 1 rfl ?_
    refine WL.callw (ι := Bool × (Option Addr × Nat) × Tk) [_] _ (.inl rfl) rfl en52 rfl rfl (fun i => .bool i.1) (fun i => glassL gb i.2.1 i.2.2) (fun i => (i.1 = true → hasT [41] q12 = some i.2.2) ∧ (i.1 = false → hasT [41] q12 = none ∧ q12 = i.2.2) ∧ Sl rdTok 3 HT i.2.1.1 i.2.1.2 i.2.2) [HT] (by simp) (fun w hw => has_any gb HT r12 q12 [41] w hm12 hw) ?_
    intro ⟨b16, r16, q16⟩ ⟨h16t, h16f, hm16⟩
    refine WL.nil (WE.then_normal ?_)
    refine WC.cond rfl (fun hc1 => ?_) (fun hc1 => ?_)
    ·
      have hq16 := h16t hc1
      have ok16 := tHas ok12 hq16
      obtain ⟨n, hn, hA⟩ := hA
      obtain ⟨n, rfl⟩ : ∃ k, n = k + 1 := ⟨n - 1, by omega⟩
      refine WC.seq ?_
      refine WC.oslN (rd := rdXE) 2 rfl (fun k hk => by simp [glassL, blk] at hk; subst hk; simp [outOf, glassL, blk, osl]) XE.cells_len (fun _ _ _ _ h => h) fun K6 fK6 hK6 => ?_
      refine WC.region ?_
      refine WL.val (.inl rfl) rfl (yl_move rfl) ?_
      refine WL.val (.inl rfl) rfl (yl_assign rfl) ?_
      refine WL.nil (WE.then_normal (WC.ret (WE.then_ret (WE.block_ret (WE.then_ret ?_)))))
      refine WE.block_ret ?_
      refine WE.ret1 rfl rfl fun w' hw => ?_
      exact .inl ⟨(g.es ++ [(x12, s12.1, s12.2)]).map (·.1), (a14, c14), r16, q16, by rw [List.length_map], by rw [hA, argsL_some hq12 hq16]; simp, slE_of hK6 (nv_vs hw (by simp) fK6) (nv_vs hw (by simp) (j12f _ hf12 hfJ)) (XEs.snoc hXE j12b j12a hx12), hm16, Ws.drops (Ws.keep (L := [_]) hw) (fun _ hm => List.mem_append_right [_, _] hm)⟩
    ·
      obtain ⟨hn16, hl16⟩ := h16f hc1
      subst hl16
      obtain ⟨n, hn, hA⟩ := hA
      obtain ⟨n, rfl⟩ : ∃ k, n = k + 1 := ⟨n - 1, by omega⟩
      refine WC.skip (WE.then_normal (WC.region ?_))
      refine WL.val (.inl rfl) rfl (yl_move rfl) ?_
      refine WL.bsliceF (.inl rfl) rfl el22 rfl rfl rfl rfl fun b19 => ?_
      refine WL.strview (T := 9) (m := 1) 0 [[44]] rfl rfl (show 1 ≤ 1 by decide) (by decide) fun H19 hH19 => ?_
      refine WL.front 0 rfl ?_
      refine WL.callwx (ι := (Option Addr × Nat) × Tk) (κ := (Option Addr × Nat) × Tk) [_] _ (.inl rfl) rfl en50 rfl rfl (fun _ => .tuple #[]) (fun i => glassL gb i.1 i.2) (fun i => mustT [[44]] q12 = some i.2 ∧ Sl rdTok 3 HT i.1.1 i.1.2 i.2) (fun _ => brk) (fun i => glassL gb i.1 i.2) (fun _ => mustT [[44]] q12 = none) ([HT, H19]) (by simp) (fun w hw => (must_any gb HT r16 q12 H19 _ _ [[44]] w hH19 hm16 hw).mono fun e w' h => by
          rcases h with ⟨r2, q, h1, h2, h3, h4⟩ | ⟨r2, q, h1, h2, h3⟩
          · exact .inl ⟨(r2, q), h1, ⟨h2, h3⟩, h4⟩
          · exact .inr ⟨(r2, q), h1, h2, h3⟩) ?_ ?_
      ·
        intro ⟨rp, qp⟩ hp
        refine WE.block_panic ?_
        refine WE.then_panic ?_
        refine WE.block_panic ?_
        refine WE.panics fun w' hw => ?_
        exact .inr ⟨rp, qp, rfl, by rw [hA, argsL_bad hq12 hn16 ((must1 _ _).symm.trans hp)]; rfl, (by have h := hw; have h := Ws.keep (L := [_]) h; have h := Ws.drops h (Vs' := [HT]) (by simp); exact h)⟩
      intro ⟨r20, q20⟩ ⟨hq20, hm20⟩
      have ok20 := tMust ok12 hq20
      refine WL.nil (WE.block_normal ?_)
      exact WE.again (⟨g.es ++ [(x12, s12.1, s12.2)], a14, c14, J12, r20, q20⟩ : GA) (by have := mustT_len hq20; simp at this; show q20.length < g.q.length; omega) ⟨⟨by have := mustT_len hq20; simp at this ⊢; omega, ok20⟩, hm20, ⟨j12f _ hf12 hfJ, XEs.snoc hXE j12b j12a hx12⟩, n, (show q20.length < n by have := mustT_len hq20; simp at this; omega), by rw [hA, argsL_more hq12 hn16 ((must1 _ _).symm.trans hq20)]; simp [Function.comp_def]⟩ (sc rfl (sc rfl (sc rfl sn))) (fun _ h => by
          have h := h.fronti 2 rfl
          have h := h.fronti 1 rfl
          have h := Ws.keep (L := [_, _]) h
          have h := Ws.drops h (Vs' := [J12, HT]) (by simp)
          exact h)
end Go.Proofs.YtjfldjidhkfnbaaGreatDoor
end
section
namespace Go.Proofs.YtjfldjidhkfnbaaGreatDoor
open Go.Bw
set_option linter.unusedVariables false
set_option linter.unusedSimpArgs false
theorem restP_1 {pe : Tk → Option (TExpr × Tk)} {l q : Tk} (h : hasT [105, 110] l = some q) : restP pe l = some (TExpr.mk 2 0 [] [] [], q) := by unfold restP; rw [show w_in = [105, 110] from rfl, h]
theorem restP_2 {pe : Tk → Option (TExpr × Tk)} {l q : Tk} (h1 : hasT [105, 110] l = none) (h : hasT [33] l = some q) : restP pe l = (pe q).map fun x => (TExpr.mk 6 0 [] [] [x.1], x.2) := by unfold restP; rw [show w_in = [105, 110] from rfl, h1]; simp only; rw [h]
theorem restP_3 {pe : Tk → Option (TExpr × Tk)} {l q : Tk} (h1 : hasT [105, 110] l = none) (h2 : hasT [33] l = none) (h : hasT [40] l = some q) : restP pe l = twoP pe q := by unfold restP; rw [show w_in = [105, 110] from rfl, h1]; simp only; rw [h2]; simp only; rw [h]
theorem restP_4 {pe : Tk → Option (TExpr × Tk)} {l : Tk} (h1 : hasT [105, 110] l = none) (h2 : hasT [33] l = none) (h : hasT [40] l = none) : restP pe l = (refP l).bind fun p => tailP pe p.1.1 p.1.2 p.2 := by unfold restP; rw [show w_in = [105, 110] from rfl, h1]; simp only; rw [h2]; simp only; rw [h]
theorem tailP_1 {pe : Tk → Option (TExpr × Tk)} {mod nm : Tx} {l q : Tk} (h : hasT [91] l = some q) : tailP pe mod nm l = (pe q).bind fun x => (hasT [93] x.2).map fun r => (TExpr.mk 4 0 mod nm [x.1], r) := by unfold tailP; rw [h]
theorem tailP_2 {pe : Tk → Option (TExpr × Tk)} {mod nm : Tx} {l q : Tk} (h1 : hasT [91] l = none) (h : hasT [40] l = some q) : tailP pe mod nm l = (argsP pe q).map fun q => (TExpr.mk 5 0 mod nm q.1, q.2) := by unfold tailP; rw [h1]; simp only; rw [h]
theorem tailP_3 {pe : Tk → Option (TExpr × Tk)} {mod nm : Tx} {l : Tk} (h1 : hasT [91] l = none) (h : hasT [40] l = none) : tailP pe mod nm l = some (TExpr.mk 3 0 mod nm [], l) := by unfold tailP; rw [h1]; simp only; rw [h]
theorem exprP_none {f d : Nat} {l : Tk} (hf : f + d = 7) (h : 6 < d ∨ l = []) : exprP f l = none := by
  rcases h with h | rfl
  · obtain rfl : f = 0 := by omega
    rfl
  · cases f <;> rfl
theorem exprP_num {f : Nat} {t : Tok} {r : Tk} (h : t.kind = 2) : exprP (f + 1) (t :: r) = some (TExpr.mk 1 t.n [] [] [], r) := by rw [exprP, if_pos h]
theorem exprP_rest {f : Nat} {t : Tok} {r : Tk} (h : ¬ t.kind = 2) : exprP (f + 1) (t :: r) = restP (exprP f) (t :: r) := by rw [exprP, if_neg h]
theorem numP_cons {t : Tok} {r : Tk} (h : t.kind = 2) : numP (t :: r) = some (t.n, r) := by simp [numP, nextT, h]
theorem pl81 : placesP Tryz.prog 81 = some [(0, 1), (1, 1), (2, 1), (3, 1), (4, 1)] := by kernel_rfl
theorem en79 : Enters Tryz.prog 79 := enters_of Tryz.func79 (by kernel_rfl) rfl
theorem en123 : Enters Tryz.prog 123 := enters_of Tryz.func123 (by kernel_rfl) rfl
theorem en104 : Enters Tryz.prog 104 := enters_of Tryz.func104 (by kernel_rfl) rfl
theorem sz41 : sizeP Tryz.prog 41 = some 1 := by kernel_rfl
theorem en105 : Enters Tryz.prog 105 := enters_of Tryz.func105 (by kernel_rfl) rfl
theorem gtwo_any (gb : Nat) (HT : View) (r : Option Addr × Nat) (l : Tk) (f d : Nat) (w : World) (hE : GlassE HT f) (hfd : f + d = 7) (hok : TOk l) (hm : Sl rdTok 3 HT r.1 r.2 l) (hw : Ws w (List.flatMap Asr.ids (glassL gb r l)) (glassL gb r l) [HT] w) :
    Calls Tryz.prog 123 #[.pointer (some ⟨gb, 0, none⟩), .int .i64 (d : Int)] w fun e w' => (∃ (x : TExpr) (s : Option Addr × Nat) (r2 : Option Addr × Nat) (q : Tk), e = .returned (.agg #[.int .i64 (x).op, .int .i64 (x).n, st (x).mod, st (x).nm, .slice s.1 (x).args.length s.2]) ∧ twoP (exprP f) l = some (x, q) ∧ Sl (RdE (f + 1)) 5 (nv w w') s.1 s.2 x.args ∧ Sl rdTok 3 HT r2.1 r2.2 q ∧ Ws w (List.flatMap Asr.ids (glassL gb r l)) (glassL gb r2 q) [HT] w') ∨ (∃ (r2 : Option Addr × Nat) (q : Tk), e = .panicked brk ∧ twoP (exprP f) l = none ∧ Ws w (List.flatMap Asr.ids (glassL gb r l)) (glassL gb r2 q) [HT] w') := by
  refine enter Tryz.func123 rfl 35 rfl rfl ?_
  refine WC.world (W' := Ws w (List.flatMap Asr.ids (glassL gb r l)) (glassL gb r l) [HT]) (fun _ e => by subst e; exact hw) ?_
  refine WC.seq (WC.region ?_)
  refine WL.alloc (.inl rfl) rfl zr81 fun b4 => ?_
  refine WL.reblk 0 (.cells (exprV (TExpr.mk 0 0 [] [] []) none 0).toArray 81 (0, 0)) rfl rfl ?_
  refine WL.nil (WE.then_normal (WC.seq (WC.region ?_)))
  refine WL.val (.inl rfl) rfl (yl_move rfl) ?_
  refine WL.val (.inl rfl) rfl (yl_move rfl) ?_
  refine WL.front 1 rfl ?_
  refine WL.callwdx (ι := (TExpr × (Option Addr × Nat)) × (Option Addr × Nat) × Tk) (κ := (Option Addr × Nat) × Tk) [_] _ (.inl rfl) rfl en103 rfl rfl (fun i => .agg #[.int .i64 (i.1.1).op, .int .i64 (i.1.1).n, st (i.1.1).mod, st (i.1.1).nm, .slice i.1.2.1 (i.1.1).args.length i.1.2.2]) (fun i => glassL gb i.2.1 i.2.2) (fun F i => exprP f l = some (i.1.1, i.2.2) ∧ Sl (RdE f) 5 F i.1.2.1 i.1.2.2 i.1.1.args ∧ Sl rdTok 3 HT i.2.1.1 i.2.1.2 i.2.2) (fun _ => brk) (fun i => glassL gb i.1 i.2) (fun _ => exprP f l = none) ([HT]) (by simp) (fun _ _ h => h) (fun w hw => (hE gb r l d w hfd hok hm hw).mono fun e w' h => by
      rcases h with ⟨x, s, r2, q, h1, h2, h3, h4, h5⟩ | ⟨r2, q, h1, h2, h3⟩
      · exact .inl ⟨((x, s), r2, q), h1, ⟨h2, h3, h4⟩, h5⟩
      · exact .inr ⟨(r2, q), h1, h2, h3⟩) ?_ ?_
  ·
    intro ⟨rp, qp⟩ hp
    refine WE.then_panic ?_
    refine WE.panics fun w' hw => ?_
    exact .inr ⟨rp, qp, rfl, by rw [twoP, hp]; rfl, (by have h := hw; have h := Ws.keep (L := [_]) h; exact h)⟩
  intro F11 ⟨⟨x11, s11⟩, r11, q11⟩ hf11 ⟨hq11, hx11, hm11⟩
  have ok11 : TOk q11 := tExpr hok hq11
  have le11 : q11.length + 1 ≤ List.length (l) := expr_len hok hq11
  refine WL.alloc (.inl rfl) rfl zr81 fun b5 => ?_
  refine WL.store 0 (.inl rfl) rfl rfl rfl sz81 rfl rfl rfl ?_
  refine WL.nil (WE.then_normal (WC.seq (WC.seq (WC.region ?_))))
  refine WL.callp (.inl rfl) rfl en116 rfl (fun w hw => ops_any w) ?_
  refine WL.val (.inl rfl) rfl (yl_move rfl) ?_
  refine WL.nil (WE.then_normal (WC.block ?_))
  refine WC.loopK (ι := Nat × (Option Addr × Nat)) (fun g => [(13, .int .i64 (g.1 : Int))]) [(0, _), (1, _), (4, _), (5, _), (12, _)] (fun g => Ws w (List.flatMap Asr.ids (glassL gb r l)) (glassL gb g.2 q11 ++ [blk b5 (.cells (XE.cells (x11, s11.1, s11.2)).toArray 81 (0, 0)), blk b4 (.cells (exprV (TExpr.mk 0 0 [] [] []) none 0).toArray 81 (0, 0))]) [F11, HT]) (fun g => g.1 ≤ 9 ∧ (∀ j v, j < g.1 → opsL[j]? = some v → hasT v q11 = none) ∧ Sl rdTok 3 HT g.2.1 g.2.2 q11) (fun g => 9 - g.1) (0, r11) ⟨Nat.zero_le _, by simp, hm11⟩ (sc rfl (sc rfl (sc rfl (sc rfl (sc rfl (sc rfl sn)))))) (fun _ h => by have h := h.fronti 2 rfl; have h := h.fronti 1 rfl; have h := h.fronti 2 rfl; exact h) ?_
  intro g ⟨hi, hall, hmg⟩
  refine WC.seq (WC.region ?_)
  refine WL.val (.inl rfl) rfl (yl_lt rfl rfl) ?_
  refine WL.nil (WE.then_normal (WC.seq ?_))
  refine WC.cond rfl (fun hc0 => ?_) (fun hc0 => ?_)
  ·
    have hlt : g.1 < 9 := by simp at hc0; omega
    obtain ⟨o, hoi⟩ : ∃ o, opsL[g.1]? = some o := ⟨_, List.getElem?_eq_getElem (by show g.1 < 9; exact hlt)⟩
    refine WC.skip (WE.then_normal (WC.seq (WC.block (WC.seq (WC.region ?_)))))
    refine WL.val (.inl rfl) rfl (yl_move rfl) ?_
    refine WL.val (.inl rfl) rfl (yl_ixa (i := g.1) ara150 rfl rfl hlt (opsA_get hoi)) ?_
    refine WL.val (.inl rfl) rfl (yl_assign rfl) ?_
    refine WL.val (.inl rfl) rfl (yl_assign rfl) ?_
    refine WL.nil (WE.then_normal (WC.seq (WC.region ?_)))
    refine WL.val (.inl rfl) rfl (yl_move rfl) ?_
    refine WL.val (.inl rfl) rfl (yl_move rfl) ?_
    refine WL.front 0 rfl ?_
    refine WL.callw (ι := Bool × (Option Addr × Nat) × Tk) [_] _ (.inl rfl) rfl en52 rfl rfl (fun i => .bool i.1) (fun i => glassL gb i.2.1 i.2.2) (fun i => (i.1 = true → hasT o q11 = some i.2.2) ∧ (i.1 = false → hasT o q11 = none ∧ q11 = i.2.2) ∧ Sl rdTok 3 HT i.2.1.1 i.2.1.2 i.2.2) [HT] (by simp) (fun w hw => has_any gb HT g.2 q11 o w hmg hw) ?_
    intro ⟨b19, r19, q19⟩ ⟨h19t, h19f, hm19⟩
    refine WL.nil (WE.then_normal ?_)
    refine WC.cond rfl (fun hc1 => ?_) (fun hc1 => ?_)
    ·
      have hq19 := h19t hc1
      have ok19 := tHas ok11 hq19
      have hop : opP opsL 0 q11 = some (g.1, q19) := by rw [opP_hit opsL g.1 0 o q11 q19 hoi hall hq19, Nat.zero_add]
      refine WC.seq (WC.region ?_)
      refine WL.val (.inl rfl) rfl (yl_move rfl) ?_
      refine WL.val (.inl rfl) rfl (yl_move rfl) ?_
      refine WL.front 0 rfl ?_
      refine WL.callwdx (ι := (TExpr × (Option Addr × Nat)) × (Option Addr × Nat) × Tk) (κ := (Option Addr × Nat) × Tk) [_] _ (.inl rfl) rfl en103 rfl rfl (fun i => .agg #[.int .i64 (i.1.1).op, .int .i64 (i.1.1).n, st (i.1.1).mod, st (i.1.1).nm, .slice i.1.2.1 (i.1.1).args.length i.1.2.2]) (fun i => glassL gb i.2.1 i.2.2) (fun F i => exprP f q19 = some (i.1.1, i.2.2) ∧ Sl (RdE f) 5 F i.1.2.1 i.1.2.2 i.1.1.args ∧ Sl rdTok 3 HT i.2.1.1 i.2.1.2 i.2.2) (fun _ => brk) (fun i => glassL gb i.1 i.2) (fun _ => exprP f q19 = none) ([HT]) (by simp) (fun _ _ h => h) (fun w hw => (hE gb r19 q19 d w hfd ok19 hm19 hw).mono fun e w' h => by
          rcases h with ⟨x, s, r2, q, h1, h2, h3, h4, h5⟩ | ⟨r2, q, h1, h2, h3⟩
          · exact .inl ⟨((x, s), r2, q), h1, ⟨h2, h3, h4⟩, h5⟩
          · exact .inr ⟨(r2, q), h1, h2, h3⟩) ?_ ?_
      ·
        intro ⟨rp, qp⟩ hp
        refine WE.then_panic ?_
        refine WE.block_panic ?_
        refine WE.then_panic ?_
        refine WE.then_panic ?_
        refine WE.block_panic ?_
        refine WE.then_panic ?_
        refine WE.panics fun w' hw => ?_
        exact .inr ⟨rp, qp, rfl, by rw [twoP, hq11]; simp only [Option.bind_some]; rw [hop]; simp only [Option.bind_some]; rw [hp]; rfl, (by have h := hw; have h := Ws.keep (L := [_]) h; have h := Ws.drops h (Vs' := [HT]) (by simp); exact h)⟩
      intro F22 ⟨⟨x22, s22⟩, r22, q22⟩ hf22 ⟨hq22, hx22, hm22⟩
      have ok22 : TOk q22 := tExpr ok19 hq22
      have le22 : q22.length + 1 ≤ List.length (q19) := expr_len ok19 hq22
      refine WL.vjoin fun J22 j22a j22b j22f => ?_
      refine WL.alloc (.inl rfl) rfl zr81 fun b8 => ?_
      refine WL.store 0 (.inl rfl) rfl rfl rfl sz81 rfl rfl rfl ?_
      refine WL.nil (WE.then_normal (WC.seq (WC.region ?_)))
      refine WL.val (.inl rfl) rfl (yl_move rfl) ?_
      refine WL.bsliceF (.inl rfl) rfl el22 rfl rfl rfl rfl fun b24 => ?_
      refine WL.strview (T := 9) (m := 1) 0 [[41]] rfl rfl (show 1 ≤ 1 by decide) (by decide) fun H24 hH24 => ?_
      refine WL.front 1 rfl ?_
      refine WL.callwx (ι := (Option Addr × Nat) × Tk) (κ := (Option Addr × Nat) × Tk) [_] _ (.inl rfl) rfl en50 rfl rfl (fun _ => .tuple #[]) (fun i => glassL gb i.1 i.2) (fun i => mustT [[41]] q22 = some i.2 ∧ Sl rdTok 3 HT i.1.1 i.1.2 i.2) (fun _ => brk) (fun i => glassL gb i.1 i.2) (fun _ => mustT [[41]] q22 = none) ([HT, H24]) (by simp) (fun w hw => (must_any gb HT r22 q22 H24 _ _ [[41]] w hH24 hm22 hw).mono fun e w' h => by
          rcases h with ⟨r2, q, h1, h2, h3, h4⟩ | ⟨r2, q, h1, h2, h3⟩
          · exact .inl ⟨(r2, q), h1, ⟨h2, h3⟩, h4⟩
          · exact .inr ⟨(r2, q), h1, h2, h3⟩) ?_ ?_
      ·
        intro ⟨rp, qp⟩ hp
        refine WE.then_panic ?_
        refine WE.block_panic ?_
        refine WE.then_panic ?_
        refine WE.then_panic ?_
        refine WE.block_panic ?_
        refine WE.then_panic ?_
        refine WE.panics fun w' hw => ?_
        exact .inr ⟨rp, qp, rfl, by rw [twoP, hq11]; simp only [Option.bind_some]; rw [hop]; simp only [Option.bind_some]; rw [hq22]; simp only [Option.bind_some]; rw [← must1, hp]; rfl, (by have h := hw; have h := Ws.keep (L := [_]) h; have h := Ws.drops h (Vs' := [HT]) (by simp); exact h)⟩
      intro ⟨r25, q25⟩ ⟨hq25, hm25⟩
      have ok25 := tMust ok22 hq25
      refine WL.nil (WE.then_normal (WC.seq (WC.region ?_)))
      refine WL.val (.inl rfl) rfl (yl_move rfl) ?_
      refine WL.val (.inl rfl) rfl (yl_addv ((7 : Int) + (g.1 : Int)) rfl rfl rfl (by omega)) ?_
      refine WL.val (.inl rfl) rfl (yl_ldka 2 rfl rfl ag81 rfl) ?_
      refine WL.val (.inl rfl) rfl (yl_ldka 1 rfl rfl ag81 rfl) ?_
      refine WL.bsliceF (.inl rfl) rfl el41 rfl rfl rfl rfl fun b30 => ?_
      refine WL.blkN (rd := rdXE) (f := XE.cells) (m := 2) 0 [(x11, s11.1, s11.2), (x22, s22.1, s22.2)] rfl rfl (fun k hk => by simp [glassL, blk] at hk; subst hk; simp [outOf, glassL, blk, osl]) XE.cells_len (fun _ _ _ _ h => h) (show 2 ≤ 2 by decide) (by decide) fun H30 fH30 hH30 => ?_
      refine WL.val (.inl rfl) rfl (yl_build zr81 pl81 rfl rfl) ?_
      refine WL.store 3 (.inl rfl) rfl rfl rfl sz81 rfl rfl rfl ?_
      refine WL.nil (WE.then_normal (WC.ret (WE.block_ret (WE.then_ret (WE.then_ret ?_)))))
      refine WE.block_ret (WE.then_ret ?_)
      refine WE.retR (rs_1 rfl (rv_agg 3 rfl rfl ag81 rfl)) fun w' hw => ?_
      exact .inl ⟨TExpr.mk (7 + (g.1 : Int)) 0 [] [] [x11, x22], (some ⟨b30, 0, none⟩, 2), r25, q25, rfl, by rw [twoP, hq11]; simp only [Option.bind_some]; rw [hop]; simp only [Option.bind_some]; rw [hq22]; simp only [Option.bind_some]; rw [← must1, hq25]; rfl, slE_of hH30 (nv_vs hw (by simp) fH30) (nv_vs hw (by simp) (j22f _ hf22 hf11)) (((XEs.nil J22 f).snoc (VLe.refl _) j22b hx11).snoc (VLe.refl _) j22a hx22), hm25, Ws.drops (Ws.keep (L := [_]) hw) (fun _ hm => List.mem_append_right [_, _, _] hm)⟩
    ·
      obtain ⟨hn19, hl19⟩ := h19f hc1
      subst hl19
      refine WC.skip (WE.block_normal (WE.then_normal (WC.region ?_)))
      refine WL.val (.inl rfl) rfl (yl_inc rfl rfl rfl (by omega)) ?_
      refine WL.val (.inl rfl) rfl (yl_move rfl) ?_
      refine WL.nil ?_
      exact WE.again ((g.1 + 1, r19) : Nat × (Option Addr × Nat)) (by show 9 - (g.1 + 1) < 9 - g.1; omega) ⟨by show g.1 + 1 ≤ 9; omega, fun j v hj hv => by
          rcases Nat.lt_succ_iff_lt_or_eq.1 hj with h | rfl
          · exact hall j v h hv
          · rw [hoi] at hv; injection hv with hv; subst hv; exact hn19, hm19⟩ (sc rfl (sc rfl (sc rfl (sc rfl (sc rfl (sc rfl sn)))))) (fun _ h => h)
  ·
    have hge : ¬ g.1 < 9 := by simp at hc0; omega
    have hmiss : opP opsL 0 q11 = none := opP_miss _ _ _ fun v hv => by
      obtain ⟨j, hj⟩ := List.getElem?_of_mem hv
      exact hall j v (by have := (List.getElem?_eq_some_iff.1 hj).1; have : opsL.length = 9 := rfl; omega) hj
    refine WC.exit (WE.then_exit (WE.then_exit (WE.block_hit (WE.then_normal (WC.region ?_)))))
    refine WL.val (.inl rfl) rfl (yl_build zr75 pl75 rfl rfl) ?_
    refine WL.val (.inl rfl) rfl (yl_mki co75 rfl) ?_
    refine WL.panic (.inl rfl) rfl ?_
    refine WE.panics fun w' hw => ?_
    exact .inr ⟨g.2, q11, rfl, by rw [twoP, hq11]; simp only [Option.bind_some]; rw [hmiss]; rfl, (by have h := hw; have h := Ws.keep (L := [_]) h; have h := Ws.drops h (Vs' := [HT]) (by simp); exact h)⟩
theorem gexpr_any (HT : View) (f : Nat) (gb : Nat) (r : Option Addr × Nat) (l : Tk) (d : Nat) (w : World) (hfd : f + d = 7) (hok : TOk l) (hm : Sl rdTok 3 HT r.1 r.2 l) (hw : Ws w (List.flatMap Asr.ids (glassL gb r l)) (glassL gb r l) [HT] w) :
    Calls Tryz.prog 103 #[.pointer (some ⟨gb, 0, none⟩), .int .i64 (d : Int)] w fun e w' => (∃ (x : TExpr) (s : Option Addr × Nat) (r2 : Option Addr × Nat) (q : Tk), e = .returned (.agg #[.int .i64 (x).op, .int .i64 (x).n, st (x).mod, st (x).nm, .slice s.1 (x).args.length s.2]) ∧ exprP f l = some (x, q) ∧ Sl (RdE f) 5 (nv w w') s.1 s.2 x.args ∧ Sl rdTok 3 HT r2.1 r2.2 q ∧ Ws w (List.flatMap Asr.ids (glassL gb r l)) (glassL gb r2 q) [HT] w') ∨ (∃ (r2 : Option Addr × Nat) (q : Tk), e = .panicked brk ∧ exprP f l = none ∧ Ws w (List.flatMap Asr.ids (glassL gb r l)) (glassL gb r2 q) [HT] w') := by
  induction f using Nat.strongRecOn generalizing gb r l d w
  rename_i f ih
  have hcap := hm.cap
  have hmax := hm.max
  refine enter Tryz.func103 rfl 83 rfl rfl ?_
  refine WC.world (W' := Ws w (List.flatMap Asr.ids (glassL gb r l)) (glassL gb r l) [HT]) (fun _ e => by subst e; exact hw) ?_
  refine WC.seq (WC.region ?_)
  refine WL.alloc (.inl rfl) rfl zr81 fun b4 => ?_
  refine WL.reblk 0 (.cells (exprV (TExpr.mk 0 0 [] [] []) none 0).toArray 81 (0, 0)) rfl rfl ?_
  refine WL.nil (WE.then_normal (WC.seq (WC.seq (WC.region ?_))))
  refine WL.val (.inl rfl) rfl (yl_move rfl) ?_
  refine WL.val (.inl rfl) rfl (yl_gt rfl rfl) ?_
  refine WL.val (.inl rfl) rfl (yl_move rfl) ?_
  apply WL.or 6 rfl rfl rfl rfl (.inl rfl) rfl rfl rfl rfl rfl
  ·
    intro hg0
    refine WL.val (.inr ⟨_, _, _, rfl, rfl, rfl⟩) rfl (yl_move rfl) ?_
    refine WL.val (.inr ⟨_, _, _, rfl, rfl, rfl⟩) rfl (yl_nil rfl) ?_
    refine WL.val (.inr ⟨_, _, _, rfl, rfl, rfl⟩) rfl (yl_fa fo73_0 rfl) ?_
    refine WL.val (.inr ⟨_, _, _, rfl, rfl, rfl⟩) rfl (yl_ldk 1 rfl rfl rfl na61) ?_
    refine WL.val (.inr ⟨_, _, _, rfl, rfl, rfl⟩) rfl (yl_len es61 rfl) ?_
    refine WL.val (.inr ⟨_, _, _, rfl, rfl, rfl⟩) rfl (yl_eq rfl rfl) ?_
    exact Got.intro 6 rfl rfl rfl
  refine WL.nil (WE.then_normal ?_)
  refine WC.cond rfl (fun hc0 => ?_) (fun hc0 => ?_)
  ·
    have hno : exprP f l = none := exprP_none hfd (by
      simp at hc0
      rcases hc0 with h | h
      · left; omega
      · right; exact h)
    refine WC.region ?_
    refine WL.val (.inl rfl) rfl (yl_build zr75 pl75 rfl rfl) ?_
    refine WL.val (.inl rfl) rfl (yl_mki co75 rfl) ?_
    refine WL.panic (.inl rfl) rfl ?_
    refine WE.then_panic ?_
    refine WE.panics fun w' hw => ?_
    exact .inr ⟨r, l, rfl, hno, (by have h := hw; have h := h.fronti 1 rfl; have h := Ws.keep (L := [_]) h; exact h)⟩
  ·
    have hd6 : ¬ 6 < d := by
      intro h
      have h2 : (6 : Int) < (d : Int) := by omega
      simp [h2] at hc0
    obtain ⟨f, rfl⟩ : ∃ k, f = k + 1 := ⟨f - 1, by omega⟩
    obtain ⟨t0, r0, rfl⟩ : ∃ t r, l = t :: r := by
      cases l with
      | nil => simp at hc0
      | cons t r => exact ⟨t, r, rfl⟩
    obtain ⟨pbt, pot, hat, hrt⟩ := hm.elt 0 t0 rfl
    have hrt : RdC HT pbt (pot + 0 * 3) t0.cells := hrt
    have hE : GlassE HT f := fun gb r l d w h1 h2 h3 h4 => ih f (by omega) gb r l d w h1 h2 h3 h4
    refine WC.skip (WE.then_normal (WC.seq (WC.block (WC.seq (WC.region ?_)))))
    refine WL.val (.inl rfl) rfl (yl_move rfl) ?_
    refine WL.val (.inl rfl) rfl (yl_nil rfl) ?_
    refine WL.val (.inl rfl) rfl (yl_fa fo73_0 rfl) ?_
    refine WL.val (.inl rfl) rfl (yl_ldk 1 rfl rfl rfl na61) ?_
    refine WL.val (.inl rfl) rfl (yl_iao (i := 0) es61 rfl rfl hat (by simp)) ?_
    refine WL.val (.inl rfl) rfl (yl_fa fo66_0 rfl) ?_
    refine WL.val (.inl rfl) rfl (yl_ld 0 na3 rfl rfl (hrt 0 _ rfl)) ?_
    refine WL.val (.inl rfl) rfl (yl_eq rfl rfl) ?_
    refine WL.val (.inl rfl) rfl (yl_assign rfl) ?_
    refine WL.nil (WE.then_normal ?_)
    refine WC.cond rfl (fun hc1 => ?_) (fun hc1 => ?_)
    ·
      have hk : t0.kind = 2 := by simpa using hc1
      refine WC.seq (WC.region ?_)
      refine WL.val (.inl rfl) rfl (yl_move rfl) ?_
      refine WL.front 1 rfl ?_
      refine WL.callwx (ι := (Int) × (Option Addr × Nat) × Tk) (κ := (Option Addr × Nat) × Tk) [_] _ (.inl rfl) rfl en79 rfl rfl (fun i => .int .i64 i.1) (fun i => glassL gb i.2.1 i.2.2) (fun i => numP (t0 :: r0) = some (i.1, i.2.2) ∧ Sl rdTok 3 HT i.2.1.1 i.2.1.2 i.2.2) (fun _ => brk) (fun i => glassL gb i.1 i.2) (fun _ => numP (t0 :: r0) = none) ([HT]) (by simp) (fun w hw => (gnum_any gb HT r (t0 :: r0) w hm hw).mono fun e w' h => by
          rcases h with ⟨t, r2, q, h1, h2, h3, h4⟩ | ⟨r2, q, h1, h2, h3⟩
          · exact .inl ⟨(t, r2, q), h1, ⟨h2, h3⟩, h4⟩
          · exact .inr ⟨(r2, q), h1, h2, h3⟩) ?_ ?_
      ·
        intro ⟨rp, qp⟩ hp
        refine WE.then_panic ?_
        refine WE.block_panic ?_
        refine WE.then_panic ?_
        refine WE.panics fun w' hw => ?_
        rw [numP_cons hk] at hp
        cases hp
      intro ⟨n30, r30, q30⟩ ⟨hq30, hm30⟩
      have ok30 := tNum hok hq30
      refine WL.val (.inl rfl) rfl (yl_build zr81 pl81 rfl rfl) ?_
      rw [numP_cons hk] at hq30
      injection hq30 with hq30
      injection hq30 with hn30 hq30
      subst hn30
      subst hq30
      refine WL.store 1 (.inl rfl) rfl rfl rfl sz81 rfl rfl rfl ?_
      refine WL.nil (WE.then_normal (WC.ret (WE.block_ret (WE.then_ret ?_))))
      refine WE.retR (rs_1 rfl (rv_agg 1 rfl rfl ag81 rfl)) fun w' hw => ?_
      exact .inl ⟨TExpr.mk 1 t0.n [] [] [], (none, 0), r30, r0, rfl, exprP_num hk, Sl.nil, hm30, Ws.keep (L := [_]) hw⟩
    ·
      have hk : ¬ t0.kind = 2 := by simpa using hc1
      have hR := exprP_rest (f := f) (r := r0) hk
      refine WC.seq (WC.region ?_)
      refine WL.val (.inl rfl) rfl (yl_move rfl) ?_
      refine WL.front 1 rfl ?_
      refine WL.callw (ι := Bool × (Option Addr × Nat) × Tk) [_] _ (.inl rfl) rfl en52 rfl rfl (fun i => .bool i.1) (fun i => glassL gb i.2.1 i.2.2) (fun i => (i.1 = true → hasT [105, 110] (t0 :: r0) = some i.2.2) ∧ (i.1 = false → hasT [105, 110] (t0 :: r0) = none ∧ (t0 :: r0) = i.2.2) ∧ Sl rdTok 3 HT i.2.1.1 i.2.1.2 i.2.2) [HT] (by simp) (fun w hw => has_any gb HT r (t0 :: r0) [105, 110] w hm hw) ?_
      intro ⟨b34, r34, q34⟩ ⟨h34t, h34f, hm34⟩
      refine WL.val (.inl rfl) rfl (yl_assign rfl) ?_
      refine WL.nil (WE.then_normal ?_)
      refine WC.cond rfl (fun hc2 => ?_) (fun hc2 => ?_)
      ·
        have hq34 := h34t hc2
        have ok34 := tHas hok hq34
        refine WC.seq (WC.region ?_)
        refine WL.val (.inl rfl) rfl (yl_build zr81 pl81 rfl rfl) ?_
        refine WL.store 1 (.inl rfl) rfl rfl rfl sz81 rfl rfl rfl ?_
        refine WL.nil (WE.then_normal (WC.ret (WE.block_ret (WE.then_ret ?_))))
        refine WE.retR (rs_1 rfl (rv_agg 1 rfl rfl ag81 rfl)) fun w' hw => ?_
        exact .inl ⟨TExpr.mk 2 0 [] [] [], (none, 0), r34, q34, rfl, by rw [hR, restP_1 hq34], Sl.nil, hm34, Ws.keep (L := [_]) hw⟩
      ·
        obtain ⟨hn34, hl34⟩ := h34f hc2
        subst hl34
        refine WC.seq (WC.region ?_)
        refine WL.val (.inl rfl) rfl (yl_move rfl) ?_
        refine WL.front 0 rfl ?_
        refine WL.callw (ι := Bool × (Option Addr × Nat) × Tk) [_] _ (.inl rfl) rfl en52 rfl rfl (fun i => .bool i.1) (fun i => glassL gb i.2.1 i.2.2) (fun i => (i.1 = true → hasT [33] (t0 :: r0) = some i.2.2) ∧ (i.1 = false → hasT [33] (t0 :: r0) = none ∧ (t0 :: r0) = i.2.2) ∧ Sl rdTok 3 HT i.2.1.1 i.2.1.2 i.2.2) [HT] (by simp) (fun w hw => has_any gb HT r34 (t0 :: r0) [33] w hm34 hw) ?_
        intro ⟨b38, r38, q38⟩ ⟨h38t, h38f, hm38⟩
        refine WL.val (.inl rfl) rfl (yl_assign rfl) ?_
        refine WL.nil (WE.then_normal ?_)
        refine WC.cond rfl (fun hc3 => ?_) (fun hc3 => ?_)
        ·
          have hq38 := h38t hc3
          have ok38 := tHas hok hq38
          refine WC.seq (WC.region ?_)
          refine WL.val (.inl rfl) rfl (yl_move rfl) ?_
          refine WL.val (.inl rfl) rfl (yl_move rfl) ?_
          refine WL.val (.inl rfl) rfl (yl_inc rfl rfl rfl (by omega)) ?_
          refine WL.front 0 rfl ?_
          refine WL.callwdx (ι := (TExpr × (Option Addr × Nat)) × (Option Addr × Nat) × Tk) (κ := (Option Addr × Nat) × Tk) [_] _ (.inl rfl) rfl en103 rfl rfl (fun i => .agg #[.int .i64 (i.1.1).op, .int .i64 (i.1.1).n, st (i.1.1).mod, st (i.1.1).nm, .slice i.1.2.1 (i.1.1).args.length i.1.2.2]) (fun i => glassL gb i.2.1 i.2.2) (fun F i => exprP f q38 = some (i.1.1, i.2.2) ∧ Sl (RdE f) 5 F i.1.2.1 i.1.2.2 i.1.1.args ∧ Sl rdTok 3 HT i.2.1.1 i.2.1.2 i.2.2) (fun _ => brk) (fun i => glassL gb i.1 i.2) (fun _ => exprP f q38 = none) ([HT]) (by simp) (fun _ _ h => h) (fun w hw => (hE gb r38 q38 (d + 1) w (by omega) ok38 hm38 hw).mono fun e w' h => by
              rcases h with ⟨x, s, r2, q, h1, h2, h3, h4, h5⟩ | ⟨r2, q, h1, h2, h3⟩
              · exact .inl ⟨((x, s), r2, q), h1, ⟨h2, h3, h4⟩, h5⟩
              · exact .inr ⟨(r2, q), h1, h2, h3⟩) ?_ ?_
          ·
            intro ⟨rp, qp⟩ hp
            refine WE.then_panic ?_
            refine WE.block_panic ?_
            refine WE.then_panic ?_
            refine WE.panics fun w' hw => ?_
            exact .inr ⟨rp, qp, rfl, by rw [hR, restP_2 hn34 hq38, hp]; rfl, (by have h := hw; have h := Ws.keep (L := [_]) h; exact h)⟩
          intro F42 ⟨⟨x42, s42⟩, r42, q42⟩ hf42 ⟨hq42, hx42, hm42⟩
          have ok42 : TOk q42 := tExpr ok38 hq42
          have le42 : q42.length + 1 ≤ List.length (q38) := expr_len ok38 hq42
          refine WL.bsliceF (.inl rfl) rfl el41 rfl rfl rfl rfl fun b43 => ?_
          refine WL.blkN (rd := rdXE) (f := XE.cells) (m := 1) 0 [(x42, s42.1, s42.2)] rfl rfl (fun k hk => by simp [glassL, blk] at hk; subst hk; simp [outOf, glassL, blk, osl]) XE.cells_len (fun _ _ _ _ h => h) (show 1 ≤ 1 by decide) (by decide) fun H43 fH43 hH43 => ?_
          refine WL.val (.inl rfl) rfl (yl_build zr81 pl81 rfl rfl) ?_
          refine WL.store 1 (.inl rfl) rfl rfl rfl sz81 rfl rfl rfl ?_
          refine WL.nil (WE.then_normal (WC.ret (WE.block_ret (WE.then_ret ?_))))
          refine WE.retR (rs_1 rfl (rv_agg 1 rfl rfl ag81 rfl)) fun w' hw => ?_
          exact .inl ⟨TExpr.mk 6 0 [] [] [x42], (some ⟨b43, 0, none⟩, 1), r42, q42, rfl, by rw [hR, restP_2 hn34 hq38, hq42]; rfl, slE_of hH43 (nv_vs hw (by simp) fH43) (nv_vs hw (by simp) hf42) ((XEs.nil F42 f).snoc (VLe.refl _) (VLe.refl _) hx42), hm42, Ws.drops (Ws.keep (L := [_]) hw) (fun _ hm => List.mem_append_right [_, _] hm)⟩
        ·
          obtain ⟨hn38, hl38⟩ := h38f hc3
          subst hl38
          refine WC.seq (WC.region ?_)
          refine WL.val (.inl rfl) rfl (yl_move rfl) ?_
          refine WL.front 0 rfl ?_
          refine WL.callw (ι := Bool × (Option Addr × Nat) × Tk) [_] _ (.inl rfl) rfl en52 rfl rfl (fun i => .bool i.1) (fun i => glassL gb i.2.1 i.2.2) (fun i => (i.1 = true → hasT [40] (t0 :: r0) = some i.2.2) ∧ (i.1 = false → hasT [40] (t0 :: r0) = none ∧ (t0 :: r0) = i.2.2) ∧ Sl rdTok 3 HT i.2.1.1 i.2.1.2 i.2.2) [HT] (by simp) (fun w hw => has_any gb HT r38 (t0 :: r0) [40] w hm38 hw) ?_
          intro ⟨b47, r47, q47⟩ ⟨h47t, h47f, hm47⟩
          refine WL.val (.inl rfl) rfl (yl_assign rfl) ?_
          refine WL.nil (WE.then_normal ?_)
          refine WC.cond rfl (fun hc4 => ?_) (fun hc4 => ?_)
          ·
            have hq47 := h47t hc4
            have ok47 := tHas hok hq47
            refine WC.seq (WC.region ?_)
            refine WL.val (.inl rfl) rfl (yl_move rfl) ?_
            refine WL.val (.inl rfl) rfl (yl_move rfl) ?_
            refine WL.val (.inl rfl) rfl (yl_inc rfl rfl rfl (by omega)) ?_
            refine WL.front 0 rfl ?_
            refine WL.callwdx (ι := ((TExpr) × (Option Addr × Nat)) × (Option Addr × Nat) × Tk) (κ := (Option Addr × Nat) × Tk) [_] _ (.inl rfl) rfl en123 rfl rfl (fun i => .agg #[.int .i64 (i.1.1).op, .int .i64 (i.1.1).n, st (i.1.1).mod, st (i.1.1).nm, .slice i.1.2.1 (i.1.1).args.length i.1.2.2]) (fun i => glassL gb i.2.1 i.2.2) (fun F i => twoP (exprP f) q47 = some (i.1.1, i.2.2) ∧ Sl (RdE (f + 1)) 5 F i.1.2.1 i.1.2.2 i.1.1.args ∧ Sl rdTok 3 HT i.2.1.1 i.2.1.2 i.2.2) (fun _ => brk) (fun i => glassL gb i.1 i.2) (fun _ => twoP (exprP f) q47 = none) ([HT]) (by simp) (fun _ _ h => h) (fun w hw => (gtwo_any gb HT r47 q47 f (d + 1) w hE (by omega) ok47 hm47 hw).mono fun e w' h => by
                rcases h with ⟨x, s, r2, q, h1, h2, h3, h4, h5⟩ | ⟨r2, q, h1, h2, h3⟩
                · exact .inl ⟨((x, s), r2, q), h1, ⟨h2, h3, h4⟩, h5⟩
                · exact .inr ⟨(r2, q), h1, h2, h3⟩) ?_ ?_
            ·
              intro ⟨rp, qp⟩ hp
              refine WE.then_panic ?_
              refine WE.block_panic ?_
              refine WE.then_panic ?_
              refine WE.panics fun w' hw => ?_
              exact .inr ⟨rp, qp, rfl, by rw [hR, restP_3 hn34 hn38 hq47, hp], (by have h := hw; have h := Ws.keep (L := [_]) h; exact h)⟩
            intro F51 ⟨⟨x51, s51⟩, r51, q51⟩ hf51 ⟨hq51, hx51, hm51⟩
            refine WL.store 1 (.inl rfl) rfl rfl rfl sz81 rfl rfl rfl ?_
            refine WL.nil (WE.then_normal (WC.ret (WE.block_ret (WE.then_ret ?_))))
            refine WE.retR (rs_1 rfl (rv_agg 1 rfl rfl ag81 rfl)) fun w' hw => ?_
            exact .inl ⟨x51, s51, r51, q51, rfl, by rw [hR, restP_3 hn34 hn38 hq47, hq51], slE_mv hx51 (nv_vs hw (by simp) hf51), hm51, Ws.drops (Ws.keep (L := [_]) hw) (fun _ hm => List.mem_append_right [_] hm)⟩
          ·
            obtain ⟨hn47, hl47⟩ := h47f hc4
            subst hl47
            refine WC.skip (WE.block_normal (WE.then_normal (WC.seq (WC.region ?_))))
            refine WL.val (.inl rfl) rfl (yl_move rfl) ?_
            refine WL.front 0 rfl ?_
            refine WL.callwx (ι := (Tx × Tx) × (Option Addr × Nat) × Tk) (κ := (Option Addr × Nat) × Tk) [_] _ (.inl rfl) rfl en104 rfl rfl (fun i => .tuple #[st i.1.1, st i.1.2]) (fun i => glassL gb i.2.1 i.2.2) (fun i => refP (t0 :: r0) = some (i.1, i.2.2) ∧ Sl rdTok 3 HT i.2.1.1 i.2.1.2 i.2.2) (fun _ => brk) (fun i => glassL gb i.1 i.2) (fun _ => refP (t0 :: r0) = none) ([HT]) (by simp) (fun w hw => (gref_any gb HT r47 (t0 :: r0) w hok hm47 hw).mono fun e w' h => by
                rcases h with ⟨t, r2, q, h1, h2, h3, h4⟩ | ⟨r2, q, h1, h2, h3⟩
                · exact .inl ⟨(t, r2, q), h1, ⟨h2, h3⟩, h4⟩
                · exact .inr ⟨(r2, q), h1, h2, h3⟩) ?_ ?_
            ·
              intro ⟨rp, qp⟩ hp
              refine WE.then_panic ?_
              refine WE.panics fun w' hw => ?_
              exact .inr ⟨rp, qp, rfl, by rw [hR, restP_4 hn34 hn38 hn47, hp]; rfl, (by have h := hw; have h := Ws.keep (L := [_]) h; exact h)⟩
            intro ⟨p54, r54, q54⟩ ⟨hq54, hm54⟩
            have ok54 := tRef hok hq54
            refine WL.val (.inl rfl) rfl (yl_move rfl) ?_
            refine WL.val (.inl rfl) rfl (yl_extract rfl rfl) ?_
            refine WL.val (.inl rfl) rfl (yl_extract rfl rfl) ?_
            refine WL.val (.inl rfl) rfl (yl_assign rfl) ?_
            refine WL.val (.inl rfl) rfl (yl_assign rfl) ?_
            refine WL.nil (WE.then_normal (WC.seq (WC.region ?_)))
            refine WL.val (.inl rfl) rfl (yl_move rfl) ?_
            refine WL.val (.inl rfl) rfl (yl_move rfl) ?_
            refine WL.val (.inl rfl) rfl (yl_build zr81 pl81 rfl rfl) ?_
            refine WL.alloc (.inl rfl) rfl zr81 fun b7 => ?_
            refine WL.store 0 (.inl rfl) rfl rfl rfl sz81 rfl rfl rfl ?_
            refine WL.nil (WE.then_normal (WC.seq (WC.block (WC.seq (WC.region ?_)))))
            refine WL.val (.inl rfl) rfl (yl_move rfl) ?_
            refine WL.front 1 rfl ?_
            refine WL.callw (ι := Bool × (Option Addr × Nat) × Tk) [_] _ (.inl rfl) rfl en52 rfl rfl (fun i => .bool i.1) (fun i => glassL gb i.2.1 i.2.2) (fun i => (i.1 = true → hasT [91] q54 = some i.2.2) ∧ (i.1 = false → hasT [91] q54 = none ∧ q54 = i.2.2) ∧ Sl rdTok 3 HT i.2.1.1 i.2.1.2 i.2.2) [HT] (by simp) (fun w hw => has_any gb HT r54 q54 [91] w hm54 hw) ?_
            intro ⟨b62, r62, q62⟩ ⟨h62t, h62f, hm62⟩
            refine WL.val (.inl rfl) rfl (yl_assign rfl) ?_
            refine WL.nil (WE.then_normal ?_)
            refine WC.cond rfl (fun hc5 => ?_) (fun hc5 => ?_)
            ·
              have hq62 := h62t hc5
              have ok62 := tHas ok54 hq62
              refine WC.seq (WC.region ?_)
              refine WL.val (.inl rfl) rfl (yl_move rfl) ?_
              refine WL.val (.inl rfl) rfl (yl_move rfl) ?_
              refine WL.val (.inl rfl) rfl (yl_inc rfl rfl rfl (by omega)) ?_
              refine WL.front 0 rfl ?_
              refine WL.callwdx (ι := (TExpr × (Option Addr × Nat)) × (Option Addr × Nat) × Tk) (κ := (Option Addr × Nat) × Tk) [_] _ (.inl rfl) rfl en103 rfl rfl (fun i => .agg #[.int .i64 (i.1.1).op, .int .i64 (i.1.1).n, st (i.1.1).mod, st (i.1.1).nm, .slice i.1.2.1 (i.1.1).args.length i.1.2.2]) (fun i => glassL gb i.2.1 i.2.2) (fun F i => exprP f q62 = some (i.1.1, i.2.2) ∧ Sl (RdE f) 5 F i.1.2.1 i.1.2.2 i.1.1.args ∧ Sl rdTok 3 HT i.2.1.1 i.2.1.2 i.2.2) (fun _ => brk) (fun i => glassL gb i.1 i.2) (fun _ => exprP f q62 = none) ([HT]) (by simp) (fun _ _ h => h) (fun w hw => (hE gb r62 q62 (d + 1) w (by omega) ok62 hm62 hw).mono fun e w' h => by
                  rcases h with ⟨x, s, r2, q, h1, h2, h3, h4, h5⟩ | ⟨r2, q, h1, h2, h3⟩
                  · exact .inl ⟨((x, s), r2, q), h1, ⟨h2, h3, h4⟩, h5⟩
                  · exact .inr ⟨(r2, q), h1, h2, h3⟩) ?_ ?_
              ·
                intro ⟨rp, qp⟩ hp
                refine WE.then_panic ?_
                refine WE.block_panic ?_
                refine WE.then_panic ?_
                refine WE.panics fun w' hw => ?_
                exact .inr ⟨rp, qp, rfl, by rw [hR, restP_4 hn34 hn38 hn47, hq54]; simp only [Option.bind_some]; rw [tailP_1 hq62, hp]; rfl, (by have h := hw; have h := Ws.keep (L := [_]) h; exact h)⟩
              intro F66 ⟨⟨x66, s66⟩, r66, q66⟩ hf66 ⟨hq66, hx66, hm66⟩
              have ok66 : TOk q66 := tExpr ok62 hq66
              have le66 : q66.length + 1 ≤ List.length (q62) := expr_len ok62 hq66
              refine WL.bsliceF (.inl rfl) rfl el41 rfl rfl rfl rfl fun b67 => ?_
              refine WL.blkN (rd := rdXE) (f := XE.cells) (m := 1) 0 [(x66, s66.1, s66.2)] rfl rfl (fun k hk => by simp [glassL, blk] at hk; subst hk; simp [outOf, glassL, blk, osl]) XE.cells_len (fun _ _ _ _ h => h) (show 1 ≤ 1 by decide) (by decide) fun H67 fH67 hH67 => ?_
              refine WL.val (.inl rfl) rfl (yl_fa fo81_0 rfl) ?_
              refine WL.store 1 (.inl rfl) rfl rfl rfl sz3 rfl rfl rfl ?_
              refine WL.val (.inl rfl) rfl (yl_fa fo81_4 rfl) ?_
              refine WL.store 1 (.inl rfl) rfl rfl rfl sz41 rfl rfl rfl ?_
              refine WL.nil (WE.then_normal (WC.region ?_))
              refine WL.val (.inl rfl) rfl (yl_move rfl) ?_
              refine WL.bsliceF (.inl rfl) rfl el22 rfl rfl rfl rfl fun b71 => ?_
              refine WL.strview (T := 9) (m := 1) 0 [[93]] rfl rfl (show 1 ≤ 1 by decide) (by decide) fun H71 hH71 => ?_
              refine WL.front 0 rfl ?_
              refine WL.callwx (ι := (Option Addr × Nat) × Tk) (κ := (Option Addr × Nat) × Tk) [_] _ (.inl rfl) rfl en50 rfl rfl (fun _ => .tuple #[]) (fun i => glassL gb i.1 i.2) (fun i => mustT [[93]] q66 = some i.2 ∧ Sl rdTok 3 HT i.1.1 i.1.2 i.2) (fun _ => brk) (fun i => glassL gb i.1 i.2) (fun _ => mustT [[93]] q66 = none) ([HT, H71]) (by simp) (fun w hw => (must_any gb HT r66 q66 H71 _ _ [[93]] w hH71 hm66 hw).mono fun e w' h => by
                  rcases h with ⟨r2, q, h1, h2, h3, h4⟩ | ⟨r2, q, h1, h2, h3⟩
                  · exact .inl ⟨(r2, q), h1, ⟨h2, h3⟩, h4⟩
                  · exact .inr ⟨(r2, q), h1, h2, h3⟩) ?_ ?_
              ·
                intro ⟨rp, qp⟩ hp
                refine WE.block_panic ?_
                refine WE.then_panic ?_
                refine WE.panics fun w' hw => ?_
                exact .inr ⟨rp, qp, rfl, by rw [hR, restP_4 hn34 hn38 hn47, hq54]; simp only [Option.bind_some]; rw [tailP_1 hq62, hq66]; simp only [Option.bind_some]; rw [← must1, hp]; rfl, (by have h := hw; have h := Ws.keep (L := [_]) h; have h := Ws.drops h (Vs' := [HT]) (by simp); exact h)⟩
              intro ⟨r72, q72⟩ ⟨hq72, hm72⟩
              have ok72 := tMust ok66 hq72
              refine WL.nil (WE.block_normal (WE.then_normal (WC.seq (WC.region ?_))))
              refine WL.val (.inl rfl) rfl (yl_ldka 1 rfl rfl ag81 rfl) ?_
              refine WL.store 2 (.inl rfl) rfl rfl rfl sz81 rfl rfl rfl ?_
              refine WL.nil (WE.then_normal (WC.ret ?_))
              refine WE.retR (rs_1 rfl (rv_agg 2 rfl rfl ag81 rfl)) fun w' hw => ?_
              exact .inl ⟨TExpr.mk 4 0 p54.1 p54.2 [x66], (some ⟨b67, 0, none⟩, 1), r72, q72, rfl, by rw [hR, restP_4 hn34 hn38 hn47, hq54]; simp only [Option.bind_some]; rw [tailP_1 hq62, hq66]; simp only [Option.bind_some]; rw [← must1, hq72]; rfl, slE_of hH67 (nv_vs hw (by simp) fH67) (nv_vs hw (by simp) hf66) ((XEs.nil F66 f).snoc (VLe.refl _) (VLe.refl _) hx66), hm72, Ws.drops (Ws.keep (L := [_]) hw) (fun _ hm => List.mem_append_right [_, _, _] hm)⟩
            ·
              obtain ⟨hn62, hl62⟩ := h62f hc5
              subst hl62
              refine WC.seq (WC.region ?_)
              refine WL.val (.inl rfl) rfl (yl_move rfl) ?_
              refine WL.front 0 rfl ?_
              refine WL.callw (ι := Bool × (Option Addr × Nat) × Tk) [_] _ (.inl rfl) rfl en52 rfl rfl (fun i => .bool i.1) (fun i => glassL gb i.2.1 i.2.2) (fun i => (i.1 = true → hasT [40] q54 = some i.2.2) ∧ (i.1 = false → hasT [40] q54 = none ∧ q54 = i.2.2) ∧ Sl rdTok 3 HT i.2.1.1 i.2.1.2 i.2.2) [HT] (by simp) (fun w hw => has_any gb HT r62 q54 [40] w hm62 hw) ?_
              intro ⟨b75, r75, q75⟩ ⟨h75t, h75f, hm75⟩
              refine WL.val (.inl rfl) rfl (yl_assign rfl) ?_
              refine WL.nil (WE.then_normal ?_)
              refine WC.cond rfl (fun hc6 => ?_) (fun hc6 => ?_)
              ·
                have hq75 := h75t hc6
                have ok75 := tHas ok54 hq75
                refine WC.region ?_
                refine WL.val (.inl rfl) rfl (yl_move rfl) ?_
                refine WL.val (.inl rfl) rfl (yl_move rfl) ?_
                refine WL.val (.inl rfl) rfl (yl_inc rfl rfl rfl (by omega)) ?_
                refine WL.front 0 rfl ?_
                refine WL.callwdx (ι := ((List TExpr) × (Option Addr × Nat)) × (Option Addr × Nat) × Tk) (κ := (Option Addr × Nat) × Tk) [_] _ (.inl rfl) rfl en105 rfl rfl (fun i => .slice i.1.2.1 i.1.1.length i.1.2.2) (fun i => glassL gb i.2.1 i.2.2) (fun F i => argsP (exprP f) q75 = some (i.1.1, i.2.2) ∧ Sl (RdE (f + 1)) 5 F i.1.2.1 i.1.2.2 i.1.1 ∧ Sl rdTok 3 HT i.2.1.1 i.2.1.2 i.2.2) (fun _ => brk) (fun i => glassL gb i.1 i.2) (fun _ => argsP (exprP f) q75 = none) ([HT]) (by simp) (fun _ _ h => h) (fun w hw => (gargs_any gb HT r75 q75 f (d + 1) w hE (by omega) ok75 hm75 hw).mono fun e w' h => by
                    rcases h with ⟨x, s, r2, q, h1, h2, h3, h4, h5⟩ | ⟨r2, q, h1, h2, h3⟩
                    · exact .inl ⟨((x, s), r2, q), h1, ⟨h2, h3, h4⟩, h5⟩
                    · exact .inr ⟨(r2, q), h1, h2, h3⟩) ?_ ?_
                ·
                  intro ⟨rp, qp⟩ hp
                  refine WE.block_panic ?_
                  refine WE.then_panic ?_
                  refine WE.panics fun w' hw => ?_
                  exact .inr ⟨rp, qp, rfl, by rw [hR, restP_4 hn34 hn38 hn47, hq54]; simp only [Option.bind_some]; rw [tailP_2 hn62 hq75, hp]; rfl, (by have h := hw; have h := Ws.keep (L := [_]) h; exact h)⟩
                intro F79 ⟨⟨xs79, s79⟩, r79, q79⟩ hf79 ⟨hq79, hx79, hm79⟩
                refine WL.val (.inl rfl) rfl (yl_fa fo81_0 rfl) ?_
                refine WL.store 1 (.inl rfl) rfl rfl rfl sz3 rfl rfl rfl ?_
                refine WL.val (.inl rfl) rfl (yl_fa fo81_4 rfl) ?_
                refine WL.store 1 (.inl rfl) rfl rfl rfl sz41 rfl rfl rfl ?_
                refine WL.nil (WE.block_normal (WE.then_normal (WC.seq (WC.region ?_))))
                refine WL.val (.inl rfl) rfl (yl_ldka 1 rfl rfl ag81 rfl) ?_
                refine WL.store 2 (.inl rfl) rfl rfl rfl sz81 rfl rfl rfl ?_
                refine WL.nil (WE.then_normal (WC.ret ?_))
                refine WE.retR (rs_1 rfl (rv_agg 2 rfl rfl ag81 rfl)) fun w' hw => ?_
                exact .inl ⟨TExpr.mk 5 0 p54.1 p54.2 xs79, s79, r79, q79, rfl, by rw [hR, restP_4 hn34 hn38 hn47, hq54]; simp only [Option.bind_some]; rw [tailP_2 hn62 hq75, hq79]; rfl, slE_mv hx79 (nv_vs hw (by simp) hf79), hm79, Ws.drops (Ws.keep (L := [_]) hw) (fun _ hm => List.mem_append_right [_] hm)⟩
              ·
                obtain ⟨hn75, hl75⟩ := h75f hc6
                subst hl75
                refine WC.skip (WE.block_normal (WE.then_normal (WC.seq (WC.region ?_))))
                refine WL.val (.inl rfl) rfl (yl_ldka 1 rfl rfl ag81 rfl) ?_
                refine WL.store 2 (.inl rfl) rfl rfl rfl sz81 rfl rfl rfl ?_
                refine WL.nil (WE.then_normal (WC.ret ?_))
                refine WE.retR (rs_1 rfl (rv_agg 2 rfl rfl ag81 rfl)) fun w' hw => ?_
                exact .inl ⟨TExpr.mk 3 0 p54.1 p54.2 [], (none, 0), r75, q54, rfl, by rw [hR, restP_4 hn34 hn38 hn47, hq54]; simp only [Option.bind_some]; rw [tailP_3 hn62 hn75], Sl.nil, hm75, Ws.keep (L := [_]) hw⟩
end Go.Proofs.YtjfldjidhkfnbaaGreatDoor
end
section
namespace Go.Proofs.YtjfldjidhkfnbaaGreatDoor
open Go.Bw
set_option linter.unusedVariables false
set_option linter.unusedSimpArgs false
structure SAt where
  s1 : Option Addr × Nat
  s2 : Option Addr × Nat
  s3 : Option Addr × Nat
abbrev SX := TStmt × SAt
def SX.cells (e : SX) : List Value := stmtV e.1 e.2.s1.1 e.2.s1.2 e.2.s2.1 e.2.s2.2 e.2.s3.1 e.2.s3.2
theorem SX.cells_len (e : SX) : (SX.cells e).length = 6 := rfl
def rdSX (H : View) (b o : Nat) (e : SX) : Prop := RdC H b o (SX.cells e)
structure SlS (f : Nat) (N : View) (x : TStmt) (p : SAt) : Prop where
  args : Sl (RdE 7) 5 N p.s1.1 p.s1.2 x.args
  body : Sl (RdS 7 f) 6 N p.s2.1 p.s2.2 x.body
  other : Sl (RdS 7 f) 6 N p.s3.1 p.s3.2 x.other
theorem slS_mv {H N : View} {f c : Nat} {a : Option Addr} {l : List TStmt} (h : Sl (RdS 7 f) 6 H a c l) (hv : VLe H N) : Sl (RdS 7 f) 6 N a c l := h.imp fun b o y hy => RdS_mono hv (Nat.le_refl _) (Nat.le_refl _) b o y hy
theorem SlS.mv {f : Nat} {H N : View} {x : TStmt} {p : SAt} (h : SlS f H x p) (hv : VLe H N) : SlS f N x p := ⟨slE_mv h.args hv, slS_mv h.body hv, slS_mv h.other hv⟩
def SXs (J : View) (f : Nat) (es : List SX) : Prop := ∀ e ∈ es, SlS f J e.1 e.2
theorem SXs.nil (J : View) (f : Nat) : SXs J f [] := by intro e h; simp at h
theorem SXs.snoc {J J1 J2 : View} {f : Nat} {es : List SX} {e : SX} (h : SXs J f es) (h1 : VLe J J2) (h2 : VLe J1 J2) (he : SlS f J1 e.1 e.2) : SXs J2 f (es ++ [e]) := by
  intro x hx
  rcases List.mem_append.1 hx with hx | hx
  · exact (h x hx).mv h1
  · rw [List.mem_singleton] at hx
    subst hx
    exact he.mv h2
theorem slS_of {H J N : View} {f c : Nat} {a : Option Addr} {es : List SX} (h : Sl rdSX 6 H a c es) (hv : VLe H N) (hJ : VLe J N) (hes : SXs J f es) : Sl (RdS 7 (f + 1)) 6 N a c (es.map (·.1)) := by
  refine ⟨by simpa using h.cap, h.max, h.spot, fun i x hx => ?_⟩
  rw [List.getElem?_map] at hx
  obtain ⟨e, he, rfl⟩ := Option.map_eq_some_iff.1 hx
  obtain ⟨b, o, h1, h2⟩ := h.elt i e he
  have h3 := (hes e (List.mem_of_getElem? he)).mv hJ
  exact ⟨b, o, h1, e.2.s1.1, e.2.s1.2, e.2.s2.1, e.2.s2.2, e.2.s3.1, e.2.s3.2, RdC.mono hv h2, h3.args, h3.body, h3.other⟩
structure GS where
  es : List SX
  a : Option Addr
  c : Nat
  J : View
  r : Option Addr × Nat
  q : Tk
def GlassB (HT : View) (f : Nat) : Prop := ∀ (gb : Nat) (r : Option Addr × Nat) (l : Tk) (d : Nat) (w : World), f + d = 7 → TOk l → Sl rdTok 3 HT r.1 r.2 l → Ws w (List.flatMap Asr.ids (glassL gb r l)) (glassL gb r l) [HT] w →
  Calls Tryz.prog 55 #[.pointer (some ⟨gb, 0, none⟩), .int .i64 (d : Int)] w fun e w' => (∃ (x : List TStmt) (s : Option Addr × Nat) (r2 : Option Addr × Nat) (q : Tk), e = .returned (.slice s.1 x.length s.2) ∧ blockP f l = some (x, q) ∧ Sl (RdS 7 f) 6 (nv w w') s.1 s.2 x ∧ Sl rdTok 3 HT r2.1 r2.2 q ∧ Ws w (List.flatMap Asr.ids (glassL gb r l)) (glassL gb r2 q) [HT] w') ∨ (∃ (r2 : Option Addr × Nat) (q : Tk), e = .panicked brk ∧ blockP f l = none ∧ Ws w (List.flatMap Asr.ids (glassL gb r l)) (glassL gb r2 q) [HT] w')
theorem tBlock {l r : Tk} {f : Nat} {x : List TStmt} (h : TOk l) (e : blockP f l = some (x, r)) : TOk r := tEats h (blockP_eats f l x r h.all e)
theorem tStmt {l r : Tk} {f : Nat} {x : TStmt} (h : TOk l) (e : stmtP (blockP f) l = some (x, r)) : TOk r := tEats h (stmtP_eats (blockP_eats f) h.all e)
theorem tArgs {l r : Tk} {xs : List TExpr} (h : TOk l) (e : argsP (exprP 6) l = some (xs, r)) : TOk r := by
  unfold argsP at e
  cases hd : hasT [41] l with
  | some q =>
    rw [hd] at e
    simp only [Option.some.injEq, Prod.mk.injEq] at e
    obtain ⟨_, rfl⟩ := e
    exact tHas h hd
  | none =>
    rw [hd] at e
    exact tEats h (argsL_eats (exprP_eats 6) _ _ _ _ h.all e)
theorem must2s {v w : Tx} {l q : Tk} (h : mustT [v, w] l = some q) : ∃ q1, hasT v l = some q1 ∧ hasT w q1 = some q := by rw [must2] at h; exact Option.bind_eq_some_iff.1 h
theorem must2n {v w : Tx} {l : Tk} (h : mustT [v, w] l = none) : hasT v l = none ∨ ∃ q1, hasT v l = some q1 ∧ hasT w q1 = none := by
  rw [must2] at h
  cases hv : hasT v l with
  | none => exact .inl rfl
  | some q1 => rw [hv] at h; exact .inr ⟨q1, rfl, h⟩
theorem stmtsL_end {ps : Tk → Option (TStmt × Tk)} {n : Nat} {l q : Tk} (h : hasT [125] l = some q) : stmtsL ps (n + 1) l = some ([], q) := by rw [stmtsL, h]
theorem stmtsL_more {ps : Tk → Option (TStmt × Tk)} {n : Nat} {l q : Tk} {x : TStmt} (h : hasT [125] l = none) (h1 : ps l = some (x, q)) : stmtsL ps (n + 1) l = (stmtsL ps n q).map fun p => (x :: p.1, p.2) := by rw [stmtsL, h]; simp only; rw [h1]; rfl
theorem stmtsL_bad {ps : Tk → Option (TStmt × Tk)} {n : Nat} {l : Tk} (h : hasT [125] l = none) (h1 : ps l = none) : stmtsL ps (n + 1) l = none := by rw [stmtsL, h]; simp only; rw [h1]; rfl
theorem en55 : Enters Tryz.prog 55 := enters_of Tryz.func55 (by kernel_rfl) rfl
theorem sz25 : sizeP Tryz.prog 25 = some 1 := by kernel_rfl
theorem sz9 : sizeP Tryz.prog 9 = some 1 := by kernel_rfl
theorem en80 : Enters Tryz.prog 80 := enters_of Tryz.func80 (by kernel_rfl) rfl
theorem el25 : EltOk Tryz.prog 25 43 (.agg #[.int .i64 0, st [], st [], .slice none 0 0, .slice none 0 0, .slice none 0 0]) 6 112 := eltOk_of (by kernel_rfl)
theorem gstmt_any (gb : Nat) (HT : View) (r : Option Addr × Nat) (l : Tk) (f d : Nat) (w : World) (hB : GlassB HT f) (hfd : f + (d + 1) = 7) (hok : TOk l) (hm : Sl rdTok 3 HT r.1 r.2 l) (hw : Ws w (List.flatMap Asr.ids (glassL gb r l)) (glassL gb r l) [HT] w) :
    Calls Tryz.prog 80 #[.pointer (some ⟨gb, 0, none⟩), .int .i64 (d : Int)] w fun e w' => (∃ (x : TStmt) (p : SAt) (r2 : Option Addr × Nat) (q : Tk), e = .returned (.agg #[.int .i64 (x).op, st (x).mod, st (x).nm, .slice (p).s1.1 (x).args.length (p).s1.2, .slice (p).s2.1 (x).body.length (p).s2.2, .slice (p).s3.1 (x).other.length (p).s3.2]) ∧ stmtP (blockP f) l = some (x, q) ∧ SlS f (nv w w') x p ∧ Sl rdTok 3 HT r2.1 r2.2 q ∧ Ws w (List.flatMap Asr.ids (glassL gb r l)) (glassL gb r2 q) [HT] w') ∨ (∃ (r2 : Option Addr × Nat) (q : Tk), e = .panicked brk ∧ stmtP (blockP f) l = none ∧ Ws w (List.flatMap Asr.ids (glassL gb r l)) (glassL gb r2 q) [HT] w') := by
  refine enter Tryz.func80 rfl 104 rfl rfl ?_
  refine WC.world (W' := Ws w (List.flatMap Asr.ids (glassL gb r l)) (glassL gb r l) [HT]) (fun _ e => by subst e; exact hw) ?_
  refine WC.seq (WC.region ?_)
  refine WL.alloc (.inl rfl) rfl zr43 fun b4 => ?_
  refine WL.reblk 0 (.cells (stmtV (TStmt.mk 0 [] [] [] [] []) none 0 none 0 none 0).toArray 43 (0, 0)) rfl rfl ?_
  refine WL.nil (WE.then_normal (WC.seq (WC.region ?_)))
  refine WL.alloc (.inl rfl) rfl zr43 fun b5 => ?_
  refine WL.reblk 0 (.cells (stmtV (TStmt.mk 0 [] [] [] [] []) none 0 none 0 none 0).toArray 43 (0, 0)) rfl rfl ?_
  refine WL.nil (WE.then_normal (WC.seq (WC.block (WC.seq (WC.region ?_)))))
  refine WL.val (.inl rfl) rfl (yl_move rfl) ?_
  refine WL.front 2 rfl ?_
  refine WL.callw (ι := Bool × (Option Addr × Nat) × Tk) [_] _ (.inl rfl) rfl en52 rfl rfl (fun i => .bool i.1) (fun i => glassL gb i.2.1 i.2.2) (fun i => (i.1 = true → hasT [105, 102] l = some i.2.2) ∧ (i.1 = false → hasT [105, 102] l = none ∧ l = i.2.2) ∧ Sl rdTok 3 HT i.2.1.1 i.2.1.2 i.2.2) [HT] (by simp) (fun w hw => has_any gb HT r l [105, 102] w hm hw) ?_
  intro ⟨b45, r45, q45⟩ ⟨h45t, h45f, hm45⟩
  refine WL.val (.inl rfl) rfl (yl_assign rfl) ?_
  refine WL.nil (WE.then_normal ?_)
  refine WC.cond rfl (fun hc0 => ?_) (fun hc0 => ?_)
  ·
    have hq45 := h45t hc0
    have ok45 := tHas hok hq45
    refine WC.seq (WC.region ?_)
    refine WL.val (.inl rfl) rfl (yl_move rfl) ?_
    refine WL.front 0 rfl ?_
    refine WL.callwdx (ι := (TExpr × (Option Addr × Nat)) × (Option Addr × Nat) × Tk) (κ := (Option Addr × Nat) × Tk) [_] _ (.inl rfl) rfl en103 rfl rfl (fun i => .agg #[.int .i64 (i.1.1).op, .int .i64 (i.1.1).n, st (i.1.1).mod, st (i.1.1).nm, .slice i.1.2.1 (i.1.1).args.length i.1.2.2]) (fun i => glassL gb i.2.1 i.2.2) (fun F i => exprP 6 q45 = some (i.1.1, i.2.2) ∧ Sl (RdE 6) 5 F i.1.2.1 i.1.2.2 i.1.1.args ∧ Sl rdTok 3 HT i.2.1.1 i.2.1.2 i.2.2) (fun _ => brk) (fun i => glassL gb i.1 i.2) (fun _ => exprP 6 q45 = none) ([HT]) (by simp) (fun _ _ h => h) (fun w hw => ((fun gb r l d w h1 h2 h3 h4 => gexpr_any HT 6 gb r l d w h1 h2 h3 h4) gb r45 q45 1 w rfl ok45 hm45 hw).mono fun e w' h => by
        rcases h with ⟨x, s, r2, q, h1, h2, h3, h4, h5⟩ | ⟨r2, q, h1, h2, h3⟩
        · exact .inl ⟨((x, s), r2, q), h1, ⟨h2, h3, h4⟩, h5⟩
        · exact .inr ⟨(r2, q), h1, h2, h3⟩) ?_ ?_
    ·
      intro ⟨rp, qp⟩ hp
      refine WE.then_panic ?_
      refine WE.block_panic ?_
      refine WE.then_panic ?_
      refine WE.panics fun w' hw => ?_
      exact .inr ⟨rp, qp, rfl, by simp only [stmtP, simpleP, w_if, w_else, w_while, w_return, w_out, hq45, hp, Option.bind_some, Option.map_some, Option.bind_none, Option.map_none], (by have h := hw; have h := Ws.keep (L := [_]) h; exact h)⟩
    intro F47 ⟨⟨x47, s47⟩, r47, q47⟩ hf47 ⟨hq47, hx47, hm47⟩
    have ok47 : TOk q47 := tExpr ok45 hq47
    have le47 : q47.length + 1 ≤ List.length (q45) := expr_len ok45 hq47
    refine WL.bsliceF (.inl rfl) rfl el41 rfl rfl rfl rfl fun b48 => ?_
    refine WL.blkN (rd := rdXE) (f := XE.cells) (m := 1) 0 [(x47, s47.1, s47.2)] rfl rfl (fun k hk => by simp [glassL, blk] at hk; subst hk; simp [outOf, glassL, blk, osl]) XE.cells_len (fun _ _ _ _ h => h) (show 1 ≤ 1 by decide) (by decide) fun H48 fH48 hH48 => ?_
    refine WL.val (.inl rfl) rfl (yl_fa fo43_0 rfl) ?_
    refine WL.store 1 (.inl rfl) rfl rfl rfl sz3 rfl rfl rfl ?_
    refine WL.val (.inl rfl) rfl (yl_fa fo43_3 rfl) ?_
    refine WL.store 1 (.inl rfl) rfl rfl rfl sz41 rfl rfl rfl ?_
    refine WL.nil (WE.then_normal (WC.seq (WC.region ?_)))
    refine WL.val (.inl rfl) rfl (yl_move rfl) ?_
    refine WL.val (.inl rfl) rfl (yl_move rfl) ?_
    refine WL.val (.inl rfl) rfl (yl_inc rfl rfl rfl (by omega)) ?_
    refine WL.front 0 rfl ?_
    refine WL.callwdx (ι := ((List TStmt) × (Option Addr × Nat)) × (Option Addr × Nat) × Tk) (κ := (Option Addr × Nat) × Tk) [_] _ (.inl rfl) rfl en55 rfl rfl (fun i => .slice i.1.2.1 i.1.1.length i.1.2.2) (fun i => glassL gb i.2.1 i.2.2) (fun F i => blockP f q47 = some (i.1.1, i.2.2) ∧ Sl (RdS 7 f) 6 F i.1.2.1 i.1.2.2 i.1.1 ∧ Sl rdTok 3 HT i.2.1.1 i.2.1.2 i.2.2) (fun _ => brk) (fun i => glassL gb i.1 i.2) (fun _ => blockP f q47 = none) ([HT]) (by simp) (fun _ _ h => h) (fun w hw => (hB gb r47 q47 (d + 1) w (by omega) ok47 hm47 hw).mono fun e w' h => by
        rcases h with ⟨x, s, r2, q, h1, h2, h3, h4, h5⟩ | ⟨r2, q, h1, h2, h3⟩
        · exact .inl ⟨((x, s), r2, q), h1, ⟨h2, h3, h4⟩, h5⟩
        · exact .inr ⟨(r2, q), h1, h2, h3⟩) ?_ ?_
    ·
      intro ⟨rp, qp⟩ hp
      refine WE.then_panic ?_
      refine WE.block_panic ?_
      refine WE.then_panic ?_
      refine WE.panics fun w' hw => ?_
      exact .inr ⟨rp, qp, rfl, by simp only [stmtP, simpleP, w_if, w_else, w_while, w_return, w_out, hq45, hq47, hp, Option.bind_some, Option.map_some, Option.bind_none, Option.map_none], (by have h := hw; have h := Ws.keep (L := [_]) h; have h := Ws.drops h (Vs' := [HT]) (by simp); exact h)⟩
    intro F54 ⟨⟨b_54, s54⟩, r54, q54⟩ hf54 ⟨hq54, hx54, hm54⟩
    have ok54 : TOk q54 := tBlock ok47 hq54
    refine WL.val (.inl rfl) rfl (yl_fa fo43_4 rfl) ?_
    refine WL.store 1 (.inl rfl) rfl rfl rfl sz25 rfl rfl rfl ?_
    refine WL.nil (WE.then_normal (WC.seq (WC.seq (WC.region ?_))))
    refine WL.val (.inl rfl) rfl (yl_move rfl) ?_
    refine WL.front 0 rfl ?_
    refine WL.callw (ι := Bool × (Option Addr × Nat) × Tk) [_] _ (.inl rfl) rfl en52 rfl rfl (fun i => .bool i.1) (fun i => glassL gb i.2.1 i.2.2) (fun i => (i.1 = true → hasT [101, 108, 115, 101] q54 = some i.2.2) ∧ (i.1 = false → hasT [101, 108, 115, 101] q54 = none ∧ q54 = i.2.2) ∧ Sl rdTok 3 HT i.2.1.1 i.2.1.2 i.2.2) [HT] (by simp) (fun w hw => has_any gb HT r54 q54 [101, 108, 115, 101] w hm54 hw) ?_
    intro ⟨b57, r57, q57⟩ ⟨h57t, h57f, hm57⟩
    refine WL.nil (WE.then_normal ?_)
    refine WC.cond rfl (fun hc1 => ?_) (fun hc1 => ?_)
    ·
      have hq57 := h57t hc1
      have ok57 := tHas ok54 hq57
      refine WC.seq (WC.region ?_)
      refine WL.val (.inl rfl) rfl (yl_move rfl) ?_
      refine WL.val (.inl rfl) rfl (yl_move rfl) ?_
      refine WL.val (.inl rfl) rfl (yl_inc rfl rfl rfl (by omega)) ?_
      refine WL.front 0 rfl ?_
      refine WL.callwdx (ι := ((List TStmt) × (Option Addr × Nat)) × (Option Addr × Nat) × Tk) (κ := (Option Addr × Nat) × Tk) [_] _ (.inl rfl) rfl en55 rfl rfl (fun i => .slice i.1.2.1 i.1.1.length i.1.2.2) (fun i => glassL gb i.2.1 i.2.2) (fun F i => blockP f q57 = some (i.1.1, i.2.2) ∧ Sl (RdS 7 f) 6 F i.1.2.1 i.1.2.2 i.1.1 ∧ Sl rdTok 3 HT i.2.1.1 i.2.1.2 i.2.2) (fun _ => brk) (fun i => glassL gb i.1 i.2) (fun _ => blockP f q57 = none) ([HT]) (by simp) (fun _ _ h => h) (fun w hw => (hB gb r57 q57 (d + 1) w (by omega) ok57 hm57 hw).mono fun e w' h => by
          rcases h with ⟨x, s, r2, q, h1, h2, h3, h4, h5⟩ | ⟨r2, q, h1, h2, h3⟩
          · exact .inl ⟨((x, s), r2, q), h1, ⟨h2, h3, h4⟩, h5⟩
          · exact .inr ⟨(r2, q), h1, h2, h3⟩) ?_ ?_
      ·
        intro ⟨rp, qp⟩ hp
        refine WE.then_panic ?_
        refine WE.then_panic ?_
        refine WE.block_panic ?_
        refine WE.then_panic ?_
        refine WE.panics fun w' hw => ?_
        exact .inr ⟨rp, qp, rfl, by simp only [stmtP, simpleP, w_if, w_else, w_while, w_return, w_out, hq45, hq47, hq54, hq57, hp, Option.bind_some, Option.map_some, Option.bind_none, Option.map_none], (by have h := hw; have h := Ws.keep (L := [_]) h; have h := Ws.drops h (Vs' := [HT]) (by simp); exact h)⟩
      intro F61 ⟨⟨b_61, s61⟩, r61, q61⟩ hf61 ⟨hq61, hx61, hm61⟩
      have ok61 : TOk q61 := tBlock ok57 hq61
      refine WL.val (.inl rfl) rfl (yl_fa fo43_5 rfl) ?_
      refine WL.store 1 (.inl rfl) rfl rfl rfl sz25 rfl rfl rfl ?_
      refine WL.nil (WE.then_normal (WC.seq (WC.region ?_)))
      refine WL.val (.inl rfl) rfl (yl_fa fo43_5 rfl) ?_
      refine WL.val (.inl rfl) rfl (yl_ldk 1 rfl rfl rfl na25) ?_
      refine WL.val (.inl rfl) rfl (yl_len es25 rfl) ?_
      refine WL.val (.inl rfl) rfl (yl_eq rfl rfl) ?_
      refine WL.nil (WE.then_normal ?_)
      refine WC.cond rfl (fun hc2 => ?_) (fun hc2 => ?_)
      ·
        have hz : b_61.length = 0 := by simpa using hc2
        refine WC.region ?_
        refine WL.val (.inl rfl) rfl (yl_build zr75 pl75 rfl rfl) ?_
        refine WL.val (.inl rfl) rfl (yl_mki co75 rfl) ?_
        refine WL.panic (.inl rfl) rfl ?_
        refine WE.then_panic ?_
        refine WE.block_panic ?_
        refine WE.then_panic ?_
        refine WE.panics fun w' hw => ?_
        exact .inr ⟨r61, q61, rfl, by simp only [stmtP, simpleP, w_if, w_else, w_while, w_return, w_out, hq45, hq47, hq54, hq57, hq61, Option.bind_some, Option.map_some, Option.bind_none, Option.map_none, if_pos hz], (by have h := hw; have h := Ws.keep (L := [_]) h; have h := Ws.drops h (Vs' := [HT]) (by simp); exact h)⟩
      ·
        have hz : ¬ b_61.length = 0 := by simpa using hc2
        refine WC.skip (WE.then_normal (WC.seq (WC.region ?_)))
        refine WL.val (.inl rfl) rfl (yl_ldka 1 rfl rfl ag43 rfl) ?_
        refine WL.store 2 (.inl rfl) rfl rfl rfl sz43 rfl rfl rfl ?_
        refine WL.nil (WE.then_normal (WC.ret (WE.block_ret (WE.then_ret ?_))))
        refine WE.retR (rs_1 rfl (rv_agg 2 rfl rfl ag43 rfl)) fun w' hw => ?_
        exact .inl ⟨TStmt.mk 4 [] [] [x47] b_54 b_61, ⟨(some ⟨b48, 0, none⟩, 1), s54, s61⟩, r61, q61, rfl, by simp only [stmtP, simpleP, w_if, w_else, w_while, w_return, w_out, hq45, hq47, hq54, hq57, hq61, Option.bind_some, Option.map_some, Option.bind_none, Option.map_none, if_neg hz], ⟨(slE_of hH48 (nv_vs hw (by simp) fH48) (nv_vs hw (by simp) hf47) ((XEs.nil F47 6).snoc (VLe.refl _) (VLe.refl _) hx47)), (slS_mv hx54 (nv_vs hw (by simp) hf54)), (slS_mv hx61 (nv_vs hw (by simp) hf61))⟩, hm61, Ws.drops (Ws.keep (L := [_]) hw) (fun _ hm => List.mem_append_right [_, _, _, _] hm)⟩
    ·
      obtain ⟨hn57, hl57⟩ := h57f hc1
      subst hl57
      refine WC.skip (WE.then_normal (WC.seq (WC.region ?_)))
      refine WL.val (.inl rfl) rfl (yl_ldka 1 rfl rfl ag43 rfl) ?_
      refine WL.store 2 (.inl rfl) rfl rfl rfl sz43 rfl rfl rfl ?_
      refine WL.nil (WE.then_normal (WC.ret (WE.block_ret (WE.then_ret ?_))))
      refine WE.retR (rs_1 rfl (rv_agg 2 rfl rfl ag43 rfl)) fun w' hw => ?_
      exact .inl ⟨TStmt.mk 4 [] [] [x47] b_54 [], ⟨(some ⟨b48, 0, none⟩, 1), s54, ((none, 0) : Option Addr × Nat)⟩, r57, q54, rfl, by simp only [stmtP, simpleP, w_if, w_else, w_while, w_return, w_out, hq45, hq47, hq54, hn57, Option.bind_some, Option.map_some, Option.bind_none, Option.map_none], ⟨(slE_of hH48 (nv_vs hw (by simp) fH48) (nv_vs hw (by simp) hf47) ((XEs.nil F47 6).snoc (VLe.refl _) (VLe.refl _) hx47)), (slS_mv hx54 (nv_vs hw (by simp) hf54)), Sl.nil⟩, hm57, Ws.drops (Ws.keep (L := [_]) hw) (fun _ hm => List.mem_append_right [_, _, _] hm)⟩
  ·
    obtain ⟨hn45, hl45⟩ := h45f hc0
    subst hl45
    refine WC.seq (WC.region ?_)
    refine WL.val (.inl rfl) rfl (yl_move rfl) ?_
    refine WL.front 0 rfl ?_
    refine WL.callw (ι := Bool × (Option Addr × Nat) × Tk) [_] _ (.inl rfl) rfl en52 rfl rfl (fun i => .bool i.1) (fun i => glassL gb i.2.1 i.2.2) (fun i => (i.1 = true → hasT [119, 104, 105, 108, 101] l = some i.2.2) ∧ (i.1 = false → hasT [119, 104, 105, 108, 101] l = none ∧ l = i.2.2) ∧ Sl rdTok 3 HT i.2.1.1 i.2.1.2 i.2.2) [HT] (by simp) (fun w hw => has_any gb HT r45 l [119, 104, 105, 108, 101] w hm45 hw) ?_
    intro ⟨b72, r72, q72⟩ ⟨h72t, h72f, hm72⟩
    refine WL.val (.inl rfl) rfl (yl_assign rfl) ?_
    refine WL.nil (WE.then_normal ?_)
    refine WC.cond rfl (fun hc3 => ?_) (fun hc3 => ?_)
    ·
      have hq72 := h72t hc3
      have ok72 := tHas hok hq72
      refine WC.seq (WC.region ?_)
      refine WL.val (.inl rfl) rfl (yl_move rfl) ?_
      refine WL.front 0 rfl ?_
      refine WL.callwdx (ι := (TExpr × (Option Addr × Nat)) × (Option Addr × Nat) × Tk) (κ := (Option Addr × Nat) × Tk) [_] _ (.inl rfl) rfl en103 rfl rfl (fun i => .agg #[.int .i64 (i.1.1).op, .int .i64 (i.1.1).n, st (i.1.1).mod, st (i.1.1).nm, .slice i.1.2.1 (i.1.1).args.length i.1.2.2]) (fun i => glassL gb i.2.1 i.2.2) (fun F i => exprP 6 q72 = some (i.1.1, i.2.2) ∧ Sl (RdE 6) 5 F i.1.2.1 i.1.2.2 i.1.1.args ∧ Sl rdTok 3 HT i.2.1.1 i.2.1.2 i.2.2) (fun _ => brk) (fun i => glassL gb i.1 i.2) (fun _ => exprP 6 q72 = none) ([HT]) (by simp) (fun _ _ h => h) (fun w hw => ((fun gb r l d w h1 h2 h3 h4 => gexpr_any HT 6 gb r l d w h1 h2 h3 h4) gb r72 q72 1 w rfl ok72 hm72 hw).mono fun e w' h => by
          rcases h with ⟨x, s, r2, q, h1, h2, h3, h4, h5⟩ | ⟨r2, q, h1, h2, h3⟩
          · exact .inl ⟨((x, s), r2, q), h1, ⟨h2, h3, h4⟩, h5⟩
          · exact .inr ⟨(r2, q), h1, h2, h3⟩) ?_ ?_
      ·
        intro ⟨rp, qp⟩ hp
        refine WE.then_panic ?_
        refine WE.block_panic ?_
        refine WE.then_panic ?_
        refine WE.panics fun w' hw => ?_
        exact .inr ⟨rp, qp, rfl, by simp only [stmtP, simpleP, w_if, w_else, w_while, w_return, w_out, hn45, hq72, hp, Option.bind_some, Option.map_some, Option.bind_none, Option.map_none], (by have h := hw; have h := Ws.keep (L := [_]) h; exact h)⟩
      intro F74 ⟨⟨x74, s74⟩, r74, q74⟩ hf74 ⟨hq74, hx74, hm74⟩
      have ok74 : TOk q74 := tExpr ok72 hq74
      have le74 : q74.length + 1 ≤ List.length (q72) := expr_len ok72 hq74
      refine WL.bsliceF (.inl rfl) rfl el41 rfl rfl rfl rfl fun b75 => ?_
      refine WL.blkN (rd := rdXE) (f := XE.cells) (m := 1) 0 [(x74, s74.1, s74.2)] rfl rfl (fun k hk => by simp [glassL, blk] at hk; subst hk; simp [outOf, glassL, blk, osl]) XE.cells_len (fun _ _ _ _ h => h) (show 1 ≤ 1 by decide) (by decide) fun H75 fH75 hH75 => ?_
      refine WL.val (.inl rfl) rfl (yl_fa fo43_0 rfl) ?_
      refine WL.store 1 (.inl rfl) rfl rfl rfl sz3 rfl rfl rfl ?_
      refine WL.val (.inl rfl) rfl (yl_fa fo43_3 rfl) ?_
      refine WL.store 1 (.inl rfl) rfl rfl rfl sz41 rfl rfl rfl ?_
      refine WL.nil (WE.then_normal (WC.seq (WC.region ?_)))
      refine WL.val (.inl rfl) rfl (yl_move rfl) ?_
      refine WL.val (.inl rfl) rfl (yl_move rfl) ?_
      refine WL.val (.inl rfl) rfl (yl_inc rfl rfl rfl (by omega)) ?_
      refine WL.front 0 rfl ?_
      refine WL.callwdx (ι := ((List TStmt) × (Option Addr × Nat)) × (Option Addr × Nat) × Tk) (κ := (Option Addr × Nat) × Tk) [_] _ (.inl rfl) rfl en55 rfl rfl (fun i => .slice i.1.2.1 i.1.1.length i.1.2.2) (fun i => glassL gb i.2.1 i.2.2) (fun F i => blockP f q74 = some (i.1.1, i.2.2) ∧ Sl (RdS 7 f) 6 F i.1.2.1 i.1.2.2 i.1.1 ∧ Sl rdTok 3 HT i.2.1.1 i.2.1.2 i.2.2) (fun _ => brk) (fun i => glassL gb i.1 i.2) (fun _ => blockP f q74 = none) ([HT]) (by simp) (fun _ _ h => h) (fun w hw => (hB gb r74 q74 (d + 1) w (by omega) ok74 hm74 hw).mono fun e w' h => by
          rcases h with ⟨x, s, r2, q, h1, h2, h3, h4, h5⟩ | ⟨r2, q, h1, h2, h3⟩
          · exact .inl ⟨((x, s), r2, q), h1, ⟨h2, h3, h4⟩, h5⟩
          · exact .inr ⟨(r2, q), h1, h2, h3⟩) ?_ ?_
      ·
        intro ⟨rp, qp⟩ hp
        refine WE.then_panic ?_
        refine WE.block_panic ?_
        refine WE.then_panic ?_
        refine WE.panics fun w' hw => ?_
        exact .inr ⟨rp, qp, rfl, by simp only [stmtP, simpleP, w_if, w_else, w_while, w_return, w_out, hn45, hq72, hq74, hp, Option.bind_some, Option.map_some, Option.bind_none, Option.map_none], (by have h := hw; have h := Ws.keep (L := [_]) h; have h := Ws.drops h (Vs' := [HT]) (by simp); exact h)⟩
      intro F81 ⟨⟨b_81, s81⟩, r81, q81⟩ hf81 ⟨hq81, hx81, hm81⟩
      have ok81 : TOk q81 := tBlock ok74 hq81
      refine WL.val (.inl rfl) rfl (yl_fa fo43_4 rfl) ?_
      refine WL.store 1 (.inl rfl) rfl rfl rfl sz25 rfl rfl rfl ?_
      refine WL.nil (WE.then_normal (WC.seq (WC.region ?_)))
      refine WL.val (.inl rfl) rfl (yl_ldka 1 rfl rfl ag43 rfl) ?_
      refine WL.store 2 (.inl rfl) rfl rfl rfl sz43 rfl rfl rfl ?_
      refine WL.nil (WE.then_normal (WC.ret (WE.block_ret (WE.then_ret ?_))))
      refine WE.retR (rs_1 rfl (rv_agg 2 rfl rfl ag43 rfl)) fun w' hw => ?_
      exact .inl ⟨TStmt.mk 5 [] [] [x74] b_81 [], ⟨(some ⟨b75, 0, none⟩, 1), s81, ((none, 0) : Option Addr × Nat)⟩, r81, q81, rfl, by simp only [stmtP, simpleP, w_if, w_else, w_while, w_return, w_out, hn45, hq72, hq74, hq81, Option.bind_some, Option.map_some, Option.bind_none, Option.map_none], ⟨(slE_of hH75 (nv_vs hw (by simp) fH75) (nv_vs hw (by simp) hf74) ((XEs.nil F74 6).snoc (VLe.refl _) (VLe.refl _) hx74)), (slS_mv hx81 (nv_vs hw (by simp) hf81)), Sl.nil⟩, hm81, Ws.drops (Ws.keep (L := [_]) hw) (fun _ hm => List.mem_append_right [_, _, _] hm)⟩
    ·
      obtain ⟨hn72, hl72⟩ := h72f hc3
      subst hl72
      refine WC.seq (WC.region ?_)
      refine WL.val (.inl rfl) rfl (yl_move rfl) ?_
      refine WL.front 0 rfl ?_
      refine WL.callw (ι := Bool × (Option Addr × Nat) × Tk) [_] _ (.inl rfl) rfl en52 rfl rfl (fun i => .bool i.1) (fun i => glassL gb i.2.1 i.2.2) (fun i => (i.1 = true → hasT [114, 101, 116, 117, 114, 110] l = some i.2.2) ∧ (i.1 = false → hasT [114, 101, 116, 117, 114, 110] l = none ∧ l = i.2.2) ∧ Sl rdTok 3 HT i.2.1.1 i.2.1.2 i.2.2) [HT] (by simp) (fun w hw => has_any gb HT r72 l [114, 101, 116, 117, 114, 110] w hm72 hw) ?_
      intro ⟨b86, r86, q86⟩ ⟨h86t, h86f, hm86⟩
      refine WL.val (.inl rfl) rfl (yl_assign rfl) ?_
      refine WL.nil (WE.then_normal ?_)
      refine WC.cond rfl (fun hc4 => ?_) (fun hc4 => ?_)
      ·
        have hq86 := h86t hc4
        have ok86 := tHas hok hq86
        refine WC.region ?_
        refine WL.val (.inl rfl) rfl (yl_move rfl) ?_
        refine WL.front 0 rfl ?_
        refine WL.callwdx (ι := (TExpr × (Option Addr × Nat)) × (Option Addr × Nat) × Tk) (κ := (Option Addr × Nat) × Tk) [_] _ (.inl rfl) rfl en103 rfl rfl (fun i => .agg #[.int .i64 (i.1.1).op, .int .i64 (i.1.1).n, st (i.1.1).mod, st (i.1.1).nm, .slice i.1.2.1 (i.1.1).args.length i.1.2.2]) (fun i => glassL gb i.2.1 i.2.2) (fun F i => exprP 6 q86 = some (i.1.1, i.2.2) ∧ Sl (RdE 6) 5 F i.1.2.1 i.1.2.2 i.1.1.args ∧ Sl rdTok 3 HT i.2.1.1 i.2.1.2 i.2.2) (fun _ => brk) (fun i => glassL gb i.1 i.2) (fun _ => exprP 6 q86 = none) ([HT]) (by simp) (fun _ _ h => h) (fun w hw => ((fun gb r l d w h1 h2 h3 h4 => gexpr_any HT 6 gb r l d w h1 h2 h3 h4) gb r86 q86 1 w rfl ok86 hm86 hw).mono fun e w' h => by
            rcases h with ⟨x, s, r2, q, h1, h2, h3, h4, h5⟩ | ⟨r2, q, h1, h2, h3⟩
            · exact .inl ⟨((x, s), r2, q), h1, ⟨h2, h3, h4⟩, h5⟩
            · exact .inr ⟨(r2, q), h1, h2, h3⟩) ?_ ?_
        ·
          intro ⟨rp, qp⟩ hp
          refine WE.block_panic ?_
          refine WE.then_panic ?_
          refine WE.panics fun w' hw => ?_
          exact .inr ⟨rp, qp, rfl, by simp only [stmtP, simpleP, w_if, w_else, w_while, w_return, w_out, hn45, hn72, hq86, hp, Option.bind_some, Option.map_some, Option.bind_none, Option.map_none], (by have h := hw; have h := Ws.keep (L := [_]) h; exact h)⟩
        intro F88 ⟨⟨x88, s88⟩, r88, q88⟩ hf88 ⟨hq88, hx88, hm88⟩
        have ok88 : TOk q88 := tExpr ok86 hq88
        have le88 : q88.length + 1 ≤ List.length (q86) := expr_len ok86 hq88
        refine WL.bsliceF (.inl rfl) rfl el41 rfl rfl rfl rfl fun b89 => ?_
        refine WL.blkN (rd := rdXE) (f := XE.cells) (m := 1) 0 [(x88, s88.1, s88.2)] rfl rfl (fun k hk => by simp [glassL, blk] at hk; subst hk; simp [outOf, glassL, blk, osl]) XE.cells_len (fun _ _ _ _ h => h) (show 1 ≤ 1 by decide) (by decide) fun H89 fH89 hH89 => ?_
        refine WL.val (.inl rfl) rfl (yl_fa fo43_0 rfl) ?_
        refine WL.store 1 (.inl rfl) rfl rfl rfl sz3 rfl rfl rfl ?_
        refine WL.val (.inl rfl) rfl (yl_fa fo43_3 rfl) ?_
        refine WL.store 1 (.inl rfl) rfl rfl rfl sz41 rfl rfl rfl ?_
        refine WL.nil (WE.block_normal (WE.then_normal (WC.seq (WC.region ?_))))
        refine WL.val (.inl rfl) rfl (yl_move rfl) ?_
        refine WL.bsliceF (.inl rfl) rfl el22 rfl rfl rfl rfl fun b101 => ?_
        refine WL.strview (T := 9) (m := 1) 0 [[59]] rfl rfl (show 1 ≤ 1 by decide) (by decide) fun H101 hH101 => ?_
        refine WL.front 0 rfl ?_
        refine WL.callwx (ι := (Option Addr × Nat) × Tk) (κ := (Option Addr × Nat) × Tk) [_] _ (.inl rfl) rfl en50 rfl rfl (fun _ => .tuple #[]) (fun i => glassL gb i.1 i.2) (fun i => mustT [[59]] q88 = some i.2 ∧ Sl rdTok 3 HT i.1.1 i.1.2 i.2) (fun _ => brk) (fun i => glassL gb i.1 i.2) (fun _ => mustT [[59]] q88 = none) ([HT, H101]) (by simp) (fun w hw => (must_any gb HT r88 q88 H101 _ _ [[59]] w hH101 hm88 hw).mono fun e w' h => by
            rcases h with ⟨r2, q, h1, h2, h3, h4⟩ | ⟨r2, q, h1, h2, h3⟩
            · exact .inl ⟨(r2, q), h1, ⟨h2, h3⟩, h4⟩
            · exact .inr ⟨(r2, q), h1, h2, h3⟩) ?_ ?_
        ·
          intro ⟨rp, qp⟩ hp
          rw [must1] at hp
          refine WE.then_panic ?_
          refine WE.panics fun w' hw => ?_
          exact .inr ⟨rp, qp, rfl, by simp only [stmtP, simpleP, w_if, w_else, w_while, w_return, w_out, hn45, hn72, hq86, hq88, hp, Option.bind_some, Option.map_some, Option.bind_none, Option.map_none], (by have h := hw; have h := Ws.keep (L := [_]) h; have h := Ws.drops h (Vs' := [HT]) (by simp); exact h)⟩
        intro ⟨r102, q102⟩ ⟨hq102, hm102⟩
        have ok102 := tMust ok88 hq102
        rw [must1] at hq102
        refine WL.nil (WE.then_normal (WC.seq (WC.region ?_)))
        refine WL.val (.inl rfl) rfl (yl_ldka 1 rfl rfl ag43 rfl) ?_
        refine WL.store 2 (.inl rfl) rfl rfl rfl sz43 rfl rfl rfl ?_
        refine WL.nil (WE.then_normal (WC.ret ?_))
        refine WE.retR (rs_1 rfl (rv_agg 2 rfl rfl ag43 rfl)) fun w' hw => ?_
        exact .inl ⟨TStmt.mk 6 [] [] [x88] [] [], ⟨(some ⟨b89, 0, none⟩, 1), ((none, 0) : Option Addr × Nat), ((none, 0) : Option Addr × Nat)⟩, r102, q102, rfl, by simp only [stmtP, simpleP, w_if, w_else, w_while, w_return, w_out, hn45, hn72, hq86, hq88, hq102, Option.bind_some, Option.map_some, Option.bind_none, Option.map_none], ⟨(slE_of hH89 (nv_vs hw (by simp) fH89) (nv_vs hw (by simp) hf88) ((XEs.nil F88 6).snoc (VLe.refl _) (VLe.refl _) hx88)), Sl.nil, Sl.nil⟩, hm102, Ws.drops (Ws.keep (L := [_]) hw) (fun _ hm => List.mem_append_right [_, _, _] hm)⟩
      ·
        obtain ⟨hn86, hl86⟩ := h86f hc4
        subst hl86
        refine WC.seq (WC.region ?_)
        refine WL.val (.inl rfl) rfl (yl_move rfl) ?_
        refine WL.front 0 rfl ?_
        refine WL.callw (ι := Bool × (Option Addr × Nat) × Tk) [_] _ (.inl rfl) rfl en52 rfl rfl (fun i => .bool i.1) (fun i => glassL gb i.2.1 i.2.2) (fun i => (i.1 = true → hasT [111, 117, 116] l = some i.2.2) ∧ (i.1 = false → hasT [111, 117, 116] l = none ∧ l = i.2.2) ∧ Sl rdTok 3 HT i.2.1.1 i.2.1.2 i.2.2) [HT] (by simp) (fun w hw => has_any gb HT r86 l [111, 117, 116] w hm86 hw) ?_
        intro ⟨b94, r94, q94⟩ ⟨h94t, h94f, hm94⟩
        refine WL.val (.inl rfl) rfl (yl_assign rfl) ?_
        refine WL.nil (WE.then_normal ?_)
        refine WC.cond rfl (fun hc5 => ?_) (fun hc5 => ?_)
        ·
          have hq94 := h94t hc5
          have ok94 := tHas hok hq94
          refine WC.region ?_
          refine WL.val (.inl rfl) rfl (yl_move rfl) ?_
          refine WL.front 0 rfl ?_
          refine WL.callwdx (ι := (TExpr × (Option Addr × Nat)) × (Option Addr × Nat) × Tk) (κ := (Option Addr × Nat) × Tk) [_] _ (.inl rfl) rfl en103 rfl rfl (fun i => .agg #[.int .i64 (i.1.1).op, .int .i64 (i.1.1).n, st (i.1.1).mod, st (i.1.1).nm, .slice i.1.2.1 (i.1.1).args.length i.1.2.2]) (fun i => glassL gb i.2.1 i.2.2) (fun F i => exprP 6 q94 = some (i.1.1, i.2.2) ∧ Sl (RdE 6) 5 F i.1.2.1 i.1.2.2 i.1.1.args ∧ Sl rdTok 3 HT i.2.1.1 i.2.1.2 i.2.2) (fun _ => brk) (fun i => glassL gb i.1 i.2) (fun _ => exprP 6 q94 = none) ([HT]) (by simp) (fun _ _ h => h) (fun w hw => ((fun gb r l d w h1 h2 h3 h4 => gexpr_any HT 6 gb r l d w h1 h2 h3 h4) gb r94 q94 1 w rfl ok94 hm94 hw).mono fun e w' h => by
              rcases h with ⟨x, s, r2, q, h1, h2, h3, h4, h5⟩ | ⟨r2, q, h1, h2, h3⟩
              · exact .inl ⟨((x, s), r2, q), h1, ⟨h2, h3, h4⟩, h5⟩
              · exact .inr ⟨(r2, q), h1, h2, h3⟩) ?_ ?_
          ·
            intro ⟨rp, qp⟩ hp
            refine WE.block_panic ?_
            refine WE.then_panic ?_
            refine WE.panics fun w' hw => ?_
            exact .inr ⟨rp, qp, rfl, by simp only [stmtP, simpleP, w_if, w_else, w_while, w_return, w_out, hn45, hn72, hn86, hq94, hp, Option.bind_some, Option.map_some, Option.bind_none, Option.map_none], (by have h := hw; have h := Ws.keep (L := [_]) h; exact h)⟩
          intro F96 ⟨⟨x96, s96⟩, r96, q96⟩ hf96 ⟨hq96, hx96, hm96⟩
          have ok96 : TOk q96 := tExpr ok94 hq96
          have le96 : q96.length + 1 ≤ List.length (q94) := expr_len ok94 hq96
          refine WL.bsliceF (.inl rfl) rfl el41 rfl rfl rfl rfl fun b97 => ?_
          refine WL.blkN (rd := rdXE) (f := XE.cells) (m := 1) 0 [(x96, s96.1, s96.2)] rfl rfl (fun k hk => by simp [glassL, blk] at hk; subst hk; simp [outOf, glassL, blk, osl]) XE.cells_len (fun _ _ _ _ h => h) (show 1 ≤ 1 by decide) (by decide) fun H97 fH97 hH97 => ?_
          refine WL.val (.inl rfl) rfl (yl_fa fo43_0 rfl) ?_
          refine WL.store 1 (.inl rfl) rfl rfl rfl sz3 rfl rfl rfl ?_
          refine WL.val (.inl rfl) rfl (yl_fa fo43_3 rfl) ?_
          refine WL.store 1 (.inl rfl) rfl rfl rfl sz41 rfl rfl rfl ?_
          refine WL.nil (WE.block_normal (WE.then_normal (WC.seq (WC.region ?_))))
          refine WL.val (.inl rfl) rfl (yl_move rfl) ?_
          refine WL.bsliceF (.inl rfl) rfl el22 rfl rfl rfl rfl fun b101 => ?_
          refine WL.strview (T := 9) (m := 1) 0 [[59]] rfl rfl (show 1 ≤ 1 by decide) (by decide) fun H101 hH101 => ?_
          refine WL.front 0 rfl ?_
          refine WL.callwx (ι := (Option Addr × Nat) × Tk) (κ := (Option Addr × Nat) × Tk) [_] _ (.inl rfl) rfl en50 rfl rfl (fun _ => .tuple #[]) (fun i => glassL gb i.1 i.2) (fun i => mustT [[59]] q96 = some i.2 ∧ Sl rdTok 3 HT i.1.1 i.1.2 i.2) (fun _ => brk) (fun i => glassL gb i.1 i.2) (fun _ => mustT [[59]] q96 = none) ([HT, H101]) (by simp) (fun w hw => (must_any gb HT r96 q96 H101 _ _ [[59]] w hH101 hm96 hw).mono fun e w' h => by
              rcases h with ⟨r2, q, h1, h2, h3, h4⟩ | ⟨r2, q, h1, h2, h3⟩
              · exact .inl ⟨(r2, q), h1, ⟨h2, h3⟩, h4⟩
              · exact .inr ⟨(r2, q), h1, h2, h3⟩) ?_ ?_
          ·
            intro ⟨rp, qp⟩ hp
            rw [must1] at hp
            refine WE.then_panic ?_
            refine WE.panics fun w' hw => ?_
            exact .inr ⟨rp, qp, rfl, by simp only [stmtP, simpleP, w_if, w_else, w_while, w_return, w_out, hn45, hn72, hn86, hq94, hq96, hp, Option.bind_some, Option.map_some, Option.bind_none, Option.map_none], (by have h := hw; have h := Ws.keep (L := [_]) h; have h := Ws.drops h (Vs' := [HT]) (by simp); exact h)⟩
          intro ⟨r102, q102⟩ ⟨hq102, hm102⟩
          have ok102 := tMust ok96 hq102
          rw [must1] at hq102
          refine WL.nil (WE.then_normal (WC.seq (WC.region ?_)))
          refine WL.val (.inl rfl) rfl (yl_ldka 1 rfl rfl ag43 rfl) ?_
          refine WL.store 2 (.inl rfl) rfl rfl rfl sz43 rfl rfl rfl ?_
          refine WL.nil (WE.then_normal (WC.ret ?_))
          refine WE.retR (rs_1 rfl (rv_agg 2 rfl rfl ag43 rfl)) fun w' hw => ?_
          exact .inl ⟨TStmt.mk 7 [] [] [x96] [] [], ⟨(some ⟨b97, 0, none⟩, 1), ((none, 0) : Option Addr × Nat), ((none, 0) : Option Addr × Nat)⟩, r102, q102, rfl, by simp only [stmtP, simpleP, w_if, w_else, w_while, w_return, w_out, hn45, hn72, hn86, hq94, hq96, hq102, Option.bind_some, Option.map_some, Option.bind_none, Option.map_none], ⟨(slE_of hH97 (nv_vs hw (by simp) fH97) (nv_vs hw (by simp) hf96) ((XEs.nil F96 6).snoc (VLe.refl _) (VLe.refl _) hx96)), Sl.nil, Sl.nil⟩, hm102, Ws.drops (Ws.keep (L := [_]) hw) (fun _ hm => List.mem_append_right [_, _, _] hm)⟩
        ·
          obtain ⟨hn94, hl94⟩ := h94f hc5
          subst hl94
          refine WC.seq (WC.region ?_)
          refine WL.val (.inl rfl) rfl (yl_move rfl) ?_
          refine WL.front 0 rfl ?_
          refine WL.callwx (ι := (Tx × Tx) × (Option Addr × Nat) × Tk) (κ := (Option Addr × Nat) × Tk) [_] _ (.inl rfl) rfl en104 rfl rfl (fun i => .tuple #[st i.1.1, st i.1.2]) (fun i => glassL gb i.2.1 i.2.2) (fun i => refP l = some (i.1, i.2.2) ∧ Sl rdTok 3 HT i.2.1.1 i.2.1.2 i.2.2) (fun _ => brk) (fun i => glassL gb i.1 i.2) (fun _ => refP l = none) ([HT]) (by simp) (fun w hw => (gref_any gb HT r94 l w hok hm94 hw).mono fun e w' h => by
              rcases h with ⟨t, r2, q, h1, h2, h3, h4⟩ | ⟨r2, q, h1, h2, h3⟩
              · exact .inl ⟨(t, r2, q), h1, ⟨h2, h3⟩, h4⟩
              · exact .inr ⟨(r2, q), h1, h2, h3⟩) ?_ ?_
          ·
            intro ⟨rp, qp⟩ hp
            refine WE.then_panic ?_
            refine WE.block_panic ?_
            refine WE.then_panic ?_
            refine WE.panics fun w' hw => ?_
            exact .inr ⟨rp, qp, rfl, by simp only [stmtP, simpleP, w_if, w_else, w_while, w_return, w_out, hn45, hn72, hn86, hn94, hp, Option.bind_some, Option.map_some, Option.bind_none, Option.map_none], (by have h := hw; have h := Ws.keep (L := [_]) h; exact h)⟩
          intro ⟨p9, r9, q9⟩ ⟨hq9, hm9⟩
          have ok9 := tRef hok hq9
          refine WL.val (.inl rfl) rfl (yl_move rfl) ?_
          refine WL.val (.inl rfl) rfl (yl_extract rfl rfl) ?_
          refine WL.val (.inl rfl) rfl (yl_extract rfl rfl) ?_
          refine WL.val (.inl rfl) rfl (yl_fa fo43_1 rfl) ?_
          refine WL.store 1 (.inl rfl) rfl rfl rfl sz9 rfl rfl rfl ?_
          refine WL.val (.inl rfl) rfl (yl_fa fo43_2 rfl) ?_
          refine WL.store 1 (.inl rfl) rfl rfl rfl sz9 rfl rfl rfl ?_
          refine WL.nil (WE.then_normal (WC.block (WC.seq (WC.region ?_))))
          refine WL.val (.inl rfl) rfl (yl_move rfl) ?_
          refine WL.front 0 rfl ?_
          refine WL.callw (ι := Bool × (Option Addr × Nat) × Tk) [_] _ (.inl rfl) rfl en52 rfl rfl (fun i => .bool i.1) (fun i => glassL gb i.2.1 i.2.2) (fun i => (i.1 = true → hasT [40] q9 = some i.2.2) ∧ (i.1 = false → hasT [40] q9 = none ∧ q9 = i.2.2) ∧ Sl rdTok 3 HT i.2.1.1 i.2.1.2 i.2.2) [HT] (by simp) (fun w hw => has_any gb HT r9 q9 [40] w hm9 hw) ?_
          intro ⟨b24, r24, q24⟩ ⟨h24t, h24f, hm24⟩
          refine WL.val (.inl rfl) rfl (yl_assign rfl) ?_
          refine WL.nil (WE.then_normal ?_)
          refine WC.cond rfl (fun hc6 => ?_) (fun hc6 => ?_)
          ·
            have hq24 := h24t hc6
            have ok24 := tHas ok9 hq24
            refine WC.region ?_
            refine WL.val (.inl rfl) rfl (yl_move rfl) ?_
            refine WL.front 0 rfl ?_
            refine WL.callwdx (ι := ((List TExpr) × (Option Addr × Nat)) × (Option Addr × Nat) × Tk) (κ := (Option Addr × Nat) × Tk) [_] _ (.inl rfl) rfl en105 rfl rfl (fun i => .slice i.1.2.1 i.1.1.length i.1.2.2) (fun i => glassL gb i.2.1 i.2.2) (fun F i => argsP (exprP 6) q24 = some (i.1.1, i.2.2) ∧ Sl (RdE (6 + 1)) 5 F i.1.2.1 i.1.2.2 i.1.1 ∧ Sl rdTok 3 HT i.2.1.1 i.2.1.2 i.2.2) (fun _ => brk) (fun i => glassL gb i.1 i.2) (fun _ => argsP (exprP 6) q24 = none) ([HT]) (by simp) (fun _ _ h => h) (fun w hw => (gargs_any gb HT r24 q24 6 (1) w (fun gb r l d w h1 h2 h3 h4 => gexpr_any HT 6 gb r l d w h1 h2 h3 h4) (by omega) ok24 hm24 hw).mono fun e w' h => by
                rcases h with ⟨x, s, r2, q, h1, h2, h3, h4, h5⟩ | ⟨r2, q, h1, h2, h3⟩
                · exact .inl ⟨((x, s), r2, q), h1, ⟨h2, h3, h4⟩, h5⟩
                · exact .inr ⟨(r2, q), h1, h2, h3⟩) ?_ ?_
            ·
              intro ⟨rp, qp⟩ hp
              refine WE.block_panic ?_
              refine WE.block_panic ?_
              refine WE.then_panic ?_
              refine WE.panics fun w' hw => ?_
              exact .inr ⟨rp, qp, rfl, by simp only [stmtP, simpleP, w_if, w_else, w_while, w_return, w_out, hn45, hn72, hn86, hn94, hq9, hq24, hp, Option.bind_some, Option.map_some, Option.bind_none, Option.map_none], (by have h := hw; have h := Ws.keep (L := [_]) h; exact h)⟩
            intro F26 ⟨⟨xs26, s26⟩, r26, q26⟩ hf26 ⟨hq26, hx26, hm26⟩
            have ok26 : TOk q26 := tArgs ok24 hq26
            refine WL.val (.inl rfl) rfl (yl_fa fo43_0 rfl) ?_
            refine WL.store 1 (.inl rfl) rfl rfl rfl sz3 rfl rfl rfl ?_
            refine WL.val (.inl rfl) rfl (yl_fa fo43_3 rfl) ?_
            refine WL.store 1 (.inl rfl) rfl rfl rfl sz41 rfl rfl rfl ?_
            refine WL.nil (WE.block_normal (WE.block_normal (WE.then_normal (WC.seq (WC.region ?_)))))
            refine WL.val (.inl rfl) rfl (yl_move rfl) ?_
            refine WL.bsliceF (.inl rfl) rfl el22 rfl rfl rfl rfl fun b101 => ?_
            refine WL.strview (T := 9) (m := 1) 0 [[59]] rfl rfl (show 1 ≤ 1 by decide) (by decide) fun H101 hH101 => ?_
            refine WL.front 0 rfl ?_
            refine WL.callwx (ι := (Option Addr × Nat) × Tk) (κ := (Option Addr × Nat) × Tk) [_] _ (.inl rfl) rfl en50 rfl rfl (fun _ => .tuple #[]) (fun i => glassL gb i.1 i.2) (fun i => mustT [[59]] q26 = some i.2 ∧ Sl rdTok 3 HT i.1.1 i.1.2 i.2) (fun _ => brk) (fun i => glassL gb i.1 i.2) (fun _ => mustT [[59]] q26 = none) ([HT, H101]) (by simp) (fun w hw => (must_any gb HT r26 q26 H101 _ _ [[59]] w hH101 hm26 hw).mono fun e w' h => by
                rcases h with ⟨r2, q, h1, h2, h3, h4⟩ | ⟨r2, q, h1, h2, h3⟩
                · exact .inl ⟨(r2, q), h1, ⟨h2, h3⟩, h4⟩
                · exact .inr ⟨(r2, q), h1, h2, h3⟩) ?_ ?_
            ·
              intro ⟨rp, qp⟩ hp
              rw [must1] at hp
              refine WE.then_panic ?_
              refine WE.panics fun w' hw => ?_
              exact .inr ⟨rp, qp, rfl, by simp only [stmtP, simpleP, w_if, w_else, w_while, w_return, w_out, hn45, hn72, hn86, hn94, hq9, hq24, hq26, hp, Option.bind_some, Option.map_some, Option.bind_none, Option.map_none], (by have h := hw; have h := Ws.keep (L := [_]) h; have h := Ws.drops h (Vs' := [HT]) (by simp); exact h)⟩
            intro ⟨r102, q102⟩ ⟨hq102, hm102⟩
            have ok102 := tMust ok26 hq102
            rw [must1] at hq102
            refine WL.nil (WE.then_normal (WC.seq (WC.region ?_)))
            refine WL.val (.inl rfl) rfl (yl_ldka 1 rfl rfl ag43 rfl) ?_
            refine WL.store 2 (.inl rfl) rfl rfl rfl sz43 rfl rfl rfl ?_
            refine WL.nil (WE.then_normal (WC.ret ?_))
            refine WE.retR (rs_1 rfl (rv_agg 2 rfl rfl ag43 rfl)) fun w' hw => ?_
            exact .inl ⟨TStmt.mk 3 p9.1 p9.2 xs26 [] [], ⟨s26, ((none, 0) : Option Addr × Nat), ((none, 0) : Option Addr × Nat)⟩, r102, q102, rfl, by simp only [stmtP, simpleP, w_if, w_else, w_while, w_return, w_out, hn45, hn72, hn86, hn94, hq9, hq24, hq26, hq102, Option.bind_some, Option.map_some, Option.bind_none, Option.map_none], ⟨(slE_mv hx26 (nv_vs hw (by simp) hf26)), Sl.nil, Sl.nil⟩, hm102, Ws.drops (Ws.keep (L := [_]) hw) (fun _ hm => List.mem_append_right [_, _] hm)⟩
          ·
            obtain ⟨hn24, hl24⟩ := h24f hc6
            subst hl24
            refine WC.seq (WC.region ?_)
            refine WL.val (.inl rfl) rfl (yl_move rfl) ?_
            refine WL.front 0 rfl ?_
            refine WL.callw (ι := Bool × (Option Addr × Nat) × Tk) [_] _ (.inl rfl) rfl en52 rfl rfl (fun i => .bool i.1) (fun i => glassL gb i.2.1 i.2.2) (fun i => (i.1 = true → hasT [91] q9 = some i.2.2) ∧ (i.1 = false → hasT [91] q9 = none ∧ q9 = i.2.2) ∧ Sl rdTok 3 HT i.2.1.1 i.2.1.2 i.2.2) [HT] (by simp) (fun w hw => has_any gb HT r24 q9 [91] w hm24 hw) ?_
            intro ⟨b31, r31, q31⟩ ⟨h31t, h31f, hm31⟩
            refine WL.val (.inl rfl) rfl (yl_assign rfl) ?_
            refine WL.nil (WE.then_normal ?_)
            refine WC.cond rfl (fun hc7 => ?_) (fun hc7 => ?_)
            ·
              have hq31 := h31t hc7
              have ok31 := tHas ok9 hq31
              refine WC.seq (WC.region ?_)
              refine WL.val (.inl rfl) rfl (yl_move rfl) ?_
              refine WL.front 0 rfl ?_
              refine WL.callwdx (ι := (TExpr × (Option Addr × Nat)) × (Option Addr × Nat) × Tk) (κ := (Option Addr × Nat) × Tk) [_] _ (.inl rfl) rfl en103 rfl rfl (fun i => .agg #[.int .i64 (i.1.1).op, .int .i64 (i.1.1).n, st (i.1.1).mod, st (i.1.1).nm, .slice i.1.2.1 (i.1.1).args.length i.1.2.2]) (fun i => glassL gb i.2.1 i.2.2) (fun F i => exprP 6 q31 = some (i.1.1, i.2.2) ∧ Sl (RdE 6) 5 F i.1.2.1 i.1.2.2 i.1.1.args ∧ Sl rdTok 3 HT i.2.1.1 i.2.1.2 i.2.2) (fun _ => brk) (fun i => glassL gb i.1 i.2) (fun _ => exprP 6 q31 = none) ([HT]) (by simp) (fun _ _ h => h) (fun w hw => ((fun gb r l d w h1 h2 h3 h4 => gexpr_any HT 6 gb r l d w h1 h2 h3 h4) gb r31 q31 1 w rfl ok31 hm31 hw).mono fun e w' h => by
                  rcases h with ⟨x, s, r2, q, h1, h2, h3, h4, h5⟩ | ⟨r2, q, h1, h2, h3⟩
                  · exact .inl ⟨((x, s), r2, q), h1, ⟨h2, h3, h4⟩, h5⟩
                  · exact .inr ⟨(r2, q), h1, h2, h3⟩) ?_ ?_
              ·
                intro ⟨rp, qp⟩ hp
                refine WE.then_panic ?_
                refine WE.block_panic ?_
                refine WE.block_panic ?_
                refine WE.then_panic ?_
                refine WE.panics fun w' hw => ?_
                exact .inr ⟨rp, qp, rfl, by simp only [stmtP, simpleP, w_if, w_else, w_while, w_return, w_out, hn45, hn72, hn86, hn94, hq9, hn24, hq31, hp, Option.bind_some, Option.map_some, Option.bind_none, Option.map_none], (by have h := hw; have h := Ws.keep (L := [_]) h; exact h)⟩
              intro F33 ⟨⟨x33, s33⟩, r33, q33⟩ hf33 ⟨hq33, hx33, hm33⟩
              have ok33 : TOk q33 := tExpr ok31 hq33
              have le33 : q33.length + 1 ≤ List.length (q31) := expr_len ok31 hq33
              refine WL.alloc (.inl rfl) rfl zr81 fun b6 => ?_
              refine WL.store 0 (.inl rfl) rfl rfl rfl sz81 rfl rfl rfl ?_
              refine WL.nil (WE.then_normal (WC.seq (WC.region ?_)))
              refine WL.val (.inl rfl) rfl (yl_move rfl) ?_
              refine WL.bsliceF (.inl rfl) rfl el22 rfl rfl rfl rfl fun b35 => ?_
              refine WL.strview (T := 9) (m := 2) 0 [[93], [61]] rfl rfl (show 2 ≤ 2 by decide) (by decide) fun H35 hH35 => ?_
              refine WL.front 1 rfl ?_
              refine WL.callwx (ι := (Option Addr × Nat) × Tk) (κ := (Option Addr × Nat) × Tk) [_] _ (.inl rfl) rfl en50 rfl rfl (fun _ => .tuple #[]) (fun i => glassL gb i.1 i.2) (fun i => mustT [[93], [61]] q33 = some i.2 ∧ Sl rdTok 3 HT i.1.1 i.1.2 i.2) (fun _ => brk) (fun i => glassL gb i.1 i.2) (fun _ => mustT [[93], [61]] q33 = none) ([HT, H35]) (by simp) (fun w hw => (must_any gb HT r33 q33 H35 _ _ [[93], [61]] w hH35 hm33 hw).mono fun e w' h => by
                  rcases h with ⟨r2, q, h1, h2, h3, h4⟩ | ⟨r2, q, h1, h2, h3⟩
                  · exact .inl ⟨(r2, q), h1, ⟨h2, h3⟩, h4⟩
                  · exact .inr ⟨(r2, q), h1, h2, h3⟩) ?_ ?_
              ·
                intro ⟨rp, qp⟩ hp
                refine WE.then_panic ?_
                refine WE.block_panic ?_
                refine WE.block_panic ?_
                refine WE.then_panic ?_
                refine WE.panics fun w' hw => ?_
                rcases must2n hp with hp | ⟨q36m, hp1, hp⟩
                · exact .inr ⟨rp, qp, rfl, by simp only [stmtP, simpleP, w_if, w_else, w_while, w_return, w_out, hn45, hn72, hn86, hn94, hq9, hn24, hq31, hq33, hp, Option.bind_some, Option.map_some, Option.bind_none, Option.map_none], (by have h := hw; have h := Ws.keep (L := [_]) h; have h := Ws.drops h (Vs' := [HT]) (by simp); exact h)⟩
                · exact .inr ⟨rp, qp, rfl, by simp only [stmtP, simpleP, w_if, w_else, w_while, w_return, w_out, hn45, hn72, hn86, hn94, hq9, hn24, hq31, hq33, hp1, hp, Option.bind_some, Option.map_some, Option.bind_none, Option.map_none], (by have h := hw; have h := Ws.keep (L := [_]) h; have h := Ws.drops h (Vs' := [HT]) (by simp); exact h)⟩
              intro ⟨r36, q36⟩ ⟨hq36, hm36⟩
              have ok36 := tMust ok33 hq36
              refine WL.nil (WE.then_normal ?_)
              refine WC.drawU (fun _ => true) [2, 0] [7] (.q true 0 (.q false 1 (.q false 4 (.e 2 (.e 3 (.e 5 (.q false 6 .nil) .stop) (.e 5 (.e 3 (.q false 6 .nil) .stop) .stop)) .stop)))) mixed (by kernel_rfl) (fun _ _ _ d _ _ h => by cases d <;> exact h) ?_
              refine WU.q rfl (.inl rfl) rfl (fun _ h => by have h := Ws.out 2 h; have h := Ws.out 0 h; exact h) (yl_ldka 0 rfl rfl ag81 rfl) ?_
              refine WU.q rfl (.inl rfl) rfl (fun _ h => by have h := Ws.out 2 h; have h := Ws.out 0 h; exact h) (yl_move rfl) ?_
              refine WU.q rfl (.inl rfl) rfl (fun _ h => by have h := Ws.out 2 h; have h := Ws.out 0 h; exact h) (yl_fa fo43_0 rfl) ?_
              refine WU.e rfl (fun _ h => by have h := Ws.out 2 h; have h := Ws.out 0 h; exact h) ?_ WU.stop
              refine WL.front 0 rfl ?_
              refine WL.callwdx (ι := (TExpr × (Option Addr × Nat)) × (Option Addr × Nat) × Tk) (κ := (Option Addr × Nat) × Tk) [_] _ (.inl rfl) rfl en103 rfl rfl (fun i => .agg #[.int .i64 (i.1.1).op, .int .i64 (i.1.1).n, st (i.1.1).mod, st (i.1.1).nm, .slice i.1.2.1 (i.1.1).args.length i.1.2.2]) (fun i => glassL gb i.2.1 i.2.2) (fun F i => exprP 6 q36 = some (i.1.1, i.2.2) ∧ Sl (RdE 6) 5 F i.1.2.1 i.1.2.2 i.1.1.args ∧ Sl rdTok 3 HT i.2.1.1 i.2.1.2 i.2.2) (fun _ => brk) (fun i => glassL gb i.1 i.2) (fun _ => exprP 6 q36 = none) ([HT]) (by simp) (fun _ _ h => h) (fun w hw => ((fun gb r l d w h1 h2 h3 h4 => gexpr_any HT 6 gb r l d w h1 h2 h3 h4) gb r36 q36 1 w rfl ok36 hm36 hw).mono fun e w' h => by
                  rcases h with ⟨x, s, r2, q, h1, h2, h3, h4, h5⟩ | ⟨r2, q, h1, h2, h3⟩
                  · exact .inl ⟨((x, s), r2, q), h1, ⟨h2, h3, h4⟩, h5⟩
                  · exact .inr ⟨(r2, q), h1, h2, h3⟩) ?_ ?_
              ·
                intro ⟨rp, qp⟩ hp
                refine WE.then_panic ?_
                refine WE.block_panic ?_
                refine WE.block_panic ?_
                refine WE.then_panic ?_
                refine WE.panics fun w' hw => ?_
                obtain ⟨q36m, hq36a, hq36b⟩ := must2s hq36
                exact .inr ⟨rp, qp, rfl, by simp only [stmtP, simpleP, w_if, w_else, w_while, w_return, w_out, hn45, hn72, hn86, hn94, hq9, hn24, hq31, hq33, hq36a, hq36b, hp, Option.bind_some, Option.map_some, Option.bind_none, Option.map_none], (by have h := hw; have h := Ws.keep (L := [_]) h; have h := Ws.drops h (Vs' := [HT]) (by simp); exact h)⟩
              intro F39 ⟨⟨x39, s39⟩, r39, q39⟩ hf39 ⟨hq39, hx39, hm39⟩
              have ok39 : TOk q39 := tExpr ok36 hq39
              have le39 : q39.length + 1 ≤ List.length (q36) := expr_len ok36 hq39
              refine WL.nil (WE.toU ?_)
              refine WU.e rfl (fun _ h => by have h := Ws.out 2 h; have h := Ws.out 0 h; have h := Ws.drops h (fun _ hm => List.mem_append_right [_] hm); exact h) ?_ ?_
              ·
                refine WL.bsliceF (.inl rfl) rfl el41 rfl rfl rfl rfl fun b40 => ?_
                refine WL.blkN (rd := rdXE) (f := XE.cells) (m := 2) 0 [(x33, s33.1, s33.2), (x39, s39.1, s39.2)] rfl rfl (fun k hk => by simp [glassL, blk] at hk; subst hk; simp [outOf, glassL, blk, osl]) XE.cells_len (fun _ _ _ _ h => h) (show 2 ≤ 2 by decide) (by decide) fun H40 fH40 hH40 => ?_
                refine WL.nil (WE.toU ?_)
                refine WU.e rfl (fun _ h => by have h := Ws.out 2 h; have h := Ws.out 0 h; have h := Ws.drops h (fun _ hm => List.mem_append_right [_, _] hm); exact h) ?_ WU.stop
                refine WL.store 2 (.inl rfl) rfl rfl rfl sz3 rfl rfl rfl ?_
                refine WL.nil (WE.toU ?_)
                refine WU.q rfl (.inl rfl) rfl (fun _ h => by have h := Ws.out 2 h; have h := Ws.out 0 h; have h := Ws.drops h (fun _ hm => List.mem_append_right [_, _] hm); exact h) (yl_fa fo43_3 rfl) ?_
                refine WU.nil (fun _ h => by have h := Ws.out 2 h; have h := Ws.out 0 h; have h := Ws.drops h (fun _ hm => List.mem_append_right [_, _] hm); exact h) ?_
                refine WS.e rfl ?_
                refine WL.store 2 (.inl rfl) rfl rfl rfl sz41 rfl rfl rfl ?_
                refine WL.nil (WE.toS ?_)
                refine WS.nil ?_
                refine WE.block_normal (WE.block_normal (WE.then_normal (WC.seq (WC.region ?_))))
                refine WL.val (.inl rfl) rfl (yl_move rfl) ?_
                refine WL.bsliceF (.inl rfl) rfl el22 rfl rfl rfl rfl fun b101 => ?_
                refine WL.strview (T := 9) (m := 1) 0 [[59]] rfl rfl (show 1 ≤ 1 by decide) (by decide) fun H101 hH101 => ?_
                refine WL.front 0 rfl ?_
                refine WL.callwx (ι := (Option Addr × Nat) × Tk) (κ := (Option Addr × Nat) × Tk) [_] _ (.inl rfl) rfl en50 rfl rfl (fun _ => .tuple #[]) (fun i => glassL gb i.1 i.2) (fun i => mustT [[59]] q39 = some i.2 ∧ Sl rdTok 3 HT i.1.1 i.1.2 i.2) (fun _ => brk) (fun i => glassL gb i.1 i.2) (fun _ => mustT [[59]] q39 = none) ([HT, H101]) (by simp) (fun w hw => (must_any gb HT r39 q39 H101 _ _ [[59]] w hH101 hm39 hw).mono fun e w' h => by
                    rcases h with ⟨r2, q, h1, h2, h3, h4⟩ | ⟨r2, q, h1, h2, h3⟩
                    · exact .inl ⟨(r2, q), h1, ⟨h2, h3⟩, h4⟩
                    · exact .inr ⟨(r2, q), h1, h2, h3⟩) ?_ ?_
                ·
                  intro ⟨rp, qp⟩ hp
                  rw [must1] at hp
                  refine WE.then_panic ?_
                  refine WE.panics fun w' hw => ?_
                  obtain ⟨q36m, hq36a, hq36b⟩ := must2s hq36
                  exact .inr ⟨rp, qp, rfl, by simp only [stmtP, simpleP, w_if, w_else, w_while, w_return, w_out, hn45, hn72, hn86, hn94, hq9, hn24, hq31, hq33, hq36a, hq36b, hq39, hp, Option.bind_some, Option.map_some, Option.bind_none, Option.map_none], (by have h := hw; have h := Ws.keep (L := [_]) h; have h := Ws.drops h (Vs' := [HT]) (by simp); exact h)⟩
                intro ⟨r102, q102⟩ ⟨hq102, hm102⟩
                have ok102 := tMust ok39 hq102
                rw [must1] at hq102
                refine WL.nil (WE.then_normal (WC.seq (WC.region ?_)))
                refine WL.val (.inl rfl) rfl (yl_ldka 2 rfl rfl ag43 rfl) ?_
                refine WL.store 3 (.inl rfl) rfl rfl rfl sz43 rfl rfl rfl ?_
                refine WL.nil (WE.then_normal (WC.ret ?_))
                refine WE.retR (rs_1 rfl (rv_agg 3 rfl rfl ag43 rfl)) fun w' hw => ?_
                obtain ⟨q36m, hq36a, hq36b⟩ := must2s hq36
                exact .inl ⟨TStmt.mk 2 p9.1 p9.2 [x33, x39] [] [], ⟨(some ⟨b40, 0, none⟩, 2), ((none, 0) : Option Addr × Nat), ((none, 0) : Option Addr × Nat)⟩, r102, q102, rfl, by simp only [stmtP, simpleP, w_if, w_else, w_while, w_return, w_out, hn45, hn72, hn86, hn94, hq9, hn24, hq31, hq33, hq36a, hq36b, hq39, hq102, Option.bind_some, Option.map_some, Option.bind_none, Option.map_none], ⟨(slE_of hH40 (nv_vs hw (by simp) fH40) (VLe.refl _) (((XEs.nil (nv w w') 6).snoc (VLe.refl _) (nv_vs hw (by simp) hf33) hx33).snoc (VLe.refl _) (nv_vs hw (by simp) hf39) hx39)), Sl.nil, Sl.nil⟩, hm102, Ws.drops (Ws.keep (L := [_]) hw) (fun _ hm => List.mem_append_right [_, _, _, _, _] hm)⟩
              refine WU.e rfl (fun _ h => by have h := Ws.out 2 h; have h := Ws.out 0 h; have h := Ws.drops h (fun _ hm => List.mem_append_right [_] hm); exact h) ?_ WU.stop
              refine WL.store 2 (.inl rfl) rfl rfl rfl sz3 rfl rfl rfl ?_
              refine WL.nil (WE.toU ?_)
              refine WU.e rfl (fun _ h => by have h := Ws.out 2 h; have h := Ws.out 0 h; have h := Ws.drops h (fun _ hm => List.mem_append_right [_] hm); exact h) ?_ WU.stop
              refine WL.bsliceF (.inl rfl) rfl el41 rfl rfl rfl rfl fun b40 => ?_
              refine WL.blkN (rd := rdXE) (f := XE.cells) (m := 2) 0 [(x33, s33.1, s33.2), (x39, s39.1, s39.2)] rfl rfl (fun k hk => by simp [glassL, blk] at hk; subst hk; simp [outOf, glassL, blk, osl]) XE.cells_len (fun _ _ _ _ h => h) (show 2 ≤ 2 by decide) (by decide) fun H40 fH40 hH40 => ?_
              refine WL.nil (WE.toU ?_)
              refine WU.q rfl (.inl rfl) rfl (fun _ h => by have h := Ws.out 2 h; have h := Ws.out 0 h; have h := Ws.drops h (fun _ hm => List.mem_append_right [_, _] hm); exact h) (yl_fa fo43_3 rfl) ?_
              refine WU.nil (fun _ h => by have h := Ws.out 2 h; have h := Ws.out 0 h; have h := Ws.drops h (fun _ hm => List.mem_append_right [_, _] hm); exact h) ?_
              refine WS.e rfl ?_
              refine WL.store 2 (.inl rfl) rfl rfl rfl sz41 rfl rfl rfl ?_
              refine WL.nil (WE.toS ?_)
              refine WS.nil ?_
              refine WE.block_normal (WE.block_normal (WE.then_normal (WC.seq (WC.region ?_))))
              refine WL.val (.inl rfl) rfl (yl_move rfl) ?_
              refine WL.bsliceF (.inl rfl) rfl el22 rfl rfl rfl rfl fun b101 => ?_
              refine WL.strview (T := 9) (m := 1) 0 [[59]] rfl rfl (show 1 ≤ 1 by decide) (by decide) fun H101 hH101 => ?_
              refine WL.front 0 rfl ?_
              refine WL.callwx (ι := (Option Addr × Nat) × Tk) (κ := (Option Addr × Nat) × Tk) [_] _ (.inl rfl) rfl en50 rfl rfl (fun _ => .tuple #[]) (fun i => glassL gb i.1 i.2) (fun i => mustT [[59]] q39 = some i.2 ∧ Sl rdTok 3 HT i.1.1 i.1.2 i.2) (fun _ => brk) (fun i => glassL gb i.1 i.2) (fun _ => mustT [[59]] q39 = none) ([HT, H101]) (by simp) (fun w hw => (must_any gb HT r39 q39 H101 _ _ [[59]] w hH101 hm39 hw).mono fun e w' h => by
                  rcases h with ⟨r2, q, h1, h2, h3, h4⟩ | ⟨r2, q, h1, h2, h3⟩
                  · exact .inl ⟨(r2, q), h1, ⟨h2, h3⟩, h4⟩
                  · exact .inr ⟨(r2, q), h1, h2, h3⟩) ?_ ?_
              ·
                intro ⟨rp, qp⟩ hp
                rw [must1] at hp
                refine WE.then_panic ?_
                refine WE.panics fun w' hw => ?_
                obtain ⟨q36m, hq36a, hq36b⟩ := must2s hq36
                exact .inr ⟨rp, qp, rfl, by simp only [stmtP, simpleP, w_if, w_else, w_while, w_return, w_out, hn45, hn72, hn86, hn94, hq9, hn24, hq31, hq33, hq36a, hq36b, hq39, hp, Option.bind_some, Option.map_some, Option.bind_none, Option.map_none], (by have h := hw; have h := Ws.keep (L := [_]) h; have h := Ws.drops h (Vs' := [HT]) (by simp); exact h)⟩
              intro ⟨r102, q102⟩ ⟨hq102, hm102⟩
              have ok102 := tMust ok39 hq102
              rw [must1] at hq102
              refine WL.nil (WE.then_normal (WC.seq (WC.region ?_)))
              refine WL.val (.inl rfl) rfl (yl_ldka 2 rfl rfl ag43 rfl) ?_
              refine WL.store 3 (.inl rfl) rfl rfl rfl sz43 rfl rfl rfl ?_
              refine WL.nil (WE.then_normal (WC.ret ?_))
              refine WE.retR (rs_1 rfl (rv_agg 3 rfl rfl ag43 rfl)) fun w' hw => ?_
              obtain ⟨q36m, hq36a, hq36b⟩ := must2s hq36
              exact .inl ⟨TStmt.mk 2 p9.1 p9.2 [x33, x39] [] [], ⟨(some ⟨b40, 0, none⟩, 2), ((none, 0) : Option Addr × Nat), ((none, 0) : Option Addr × Nat)⟩, r102, q102, rfl, by simp only [stmtP, simpleP, w_if, w_else, w_while, w_return, w_out, hn45, hn72, hn86, hn94, hq9, hn24, hq31, hq33, hq36a, hq36b, hq39, hq102, Option.bind_some, Option.map_some, Option.bind_none, Option.map_none], ⟨(slE_of hH40 (nv_vs hw (by simp) fH40) (VLe.refl _) (((XEs.nil (nv w w') 6).snoc (VLe.refl _) (nv_vs hw (by simp) hf33) hx33).snoc (VLe.refl _) (nv_vs hw (by simp) hf39) hx39)), Sl.nil, Sl.nil⟩, hm102, Ws.drops (Ws.keep (L := [_]) hw) (fun _ hm => List.mem_append_right [_, _, _, _, _] hm)⟩
            ·
              obtain ⟨hn31, hl31⟩ := h31f hc7
              subst hl31
              refine WC.seq (WC.region ?_)
              refine WL.val (.inl rfl) rfl (yl_move rfl) ?_
              refine WL.bsliceF (.inl rfl) rfl el22 rfl rfl rfl rfl fun b15 => ?_
              refine WL.strview (T := 9) (m := 1) 0 [[61]] rfl rfl (show 1 ≤ 1 by decide) (by decide) fun H15 hH15 => ?_
              refine WL.front 0 rfl ?_
              refine WL.callwx (ι := (Option Addr × Nat) × Tk) (κ := (Option Addr × Nat) × Tk) [_] _ (.inl rfl) rfl en50 rfl rfl (fun _ => .tuple #[]) (fun i => glassL gb i.1 i.2) (fun i => mustT [[61]] q9 = some i.2 ∧ Sl rdTok 3 HT i.1.1 i.1.2 i.2) (fun _ => brk) (fun i => glassL gb i.1 i.2) (fun _ => mustT [[61]] q9 = none) ([HT, H15]) (by simp) (fun w hw => (must_any gb HT r31 q9 H15 _ _ [[61]] w hH15 hm31 hw).mono fun e w' h => by
                  rcases h with ⟨r2, q, h1, h2, h3, h4⟩ | ⟨r2, q, h1, h2, h3⟩
                  · exact .inl ⟨(r2, q), h1, ⟨h2, h3⟩, h4⟩
                  · exact .inr ⟨(r2, q), h1, h2, h3⟩) ?_ ?_
              ·
                intro ⟨rp, qp⟩ hp
                rw [must1] at hp
                refine WE.then_panic ?_
                refine WE.block_panic ?_
                refine WE.block_panic ?_
                refine WE.then_panic ?_
                refine WE.panics fun w' hw => ?_
                exact .inr ⟨rp, qp, rfl, by simp only [stmtP, simpleP, w_if, w_else, w_while, w_return, w_out, hn45, hn72, hn86, hn94, hq9, hn24, hn31, hp, Option.bind_some, Option.map_some, Option.bind_none, Option.map_none], (by have h := hw; have h := Ws.keep (L := [_]) h; have h := Ws.drops h (Vs' := [HT]) (by simp); exact h)⟩
              intro ⟨r16, q16⟩ ⟨hq16, hm16⟩
              have ok16 := tMust ok9 hq16
              rw [must1] at hq16
              refine WL.nil (WE.then_normal (WC.region ?_))
              refine WL.val (.inl rfl) rfl (yl_move rfl) ?_
              refine WL.front 0 rfl ?_
              refine WL.callwdx (ι := (TExpr × (Option Addr × Nat)) × (Option Addr × Nat) × Tk) (κ := (Option Addr × Nat) × Tk) [_] _ (.inl rfl) rfl en103 rfl rfl (fun i => .agg #[.int .i64 (i.1.1).op, .int .i64 (i.1.1).n, st (i.1.1).mod, st (i.1.1).nm, .slice i.1.2.1 (i.1.1).args.length i.1.2.2]) (fun i => glassL gb i.2.1 i.2.2) (fun F i => exprP 6 q16 = some (i.1.1, i.2.2) ∧ Sl (RdE 6) 5 F i.1.2.1 i.1.2.2 i.1.1.args ∧ Sl rdTok 3 HT i.2.1.1 i.2.1.2 i.2.2) (fun _ => brk) (fun i => glassL gb i.1 i.2) (fun _ => exprP 6 q16 = none) ([HT]) (by simp) (fun _ _ h => h) (fun w hw => ((fun gb r l d w h1 h2 h3 h4 => gexpr_any HT 6 gb r l d w h1 h2 h3 h4) gb r16 q16 1 w rfl ok16 hm16 hw).mono fun e w' h => by
                  rcases h with ⟨x, s, r2, q, h1, h2, h3, h4, h5⟩ | ⟨r2, q, h1, h2, h3⟩
                  · exact .inl ⟨((x, s), r2, q), h1, ⟨h2, h3, h4⟩, h5⟩
                  · exact .inr ⟨(r2, q), h1, h2, h3⟩) ?_ ?_
              ·
                intro ⟨rp, qp⟩ hp
                refine WE.block_panic ?_
                refine WE.block_panic ?_
                refine WE.then_panic ?_
                refine WE.panics fun w' hw => ?_
                exact .inr ⟨rp, qp, rfl, by simp only [stmtP, simpleP, w_if, w_else, w_while, w_return, w_out, hn45, hn72, hn86, hn94, hq9, hn24, hn31, hq16, hp, Option.bind_some, Option.map_some, Option.bind_none, Option.map_none], (by have h := hw; have h := Ws.keep (L := [_]) h; have h := Ws.drops h (Vs' := [HT]) (by simp); exact h)⟩
              intro F18 ⟨⟨x18, s18⟩, r18, q18⟩ hf18 ⟨hq18, hx18, hm18⟩
              have ok18 : TOk q18 := tExpr ok16 hq18
              have le18 : q18.length + 1 ≤ List.length (q16) := expr_len ok16 hq18
              refine WL.bsliceF (.inl rfl) rfl el41 rfl rfl rfl rfl fun b19 => ?_
              refine WL.blkN (rd := rdXE) (f := XE.cells) (m := 1) 0 [(x18, s18.1, s18.2)] rfl rfl (fun k hk => by simp [glassL, blk] at hk; subst hk; simp [outOf, glassL, blk, osl]) XE.cells_len (fun _ _ _ _ h => h) (show 1 ≤ 1 by decide) (by decide) fun H19 fH19 hH19 => ?_
              refine WL.val (.inl rfl) rfl (yl_fa fo43_0 rfl) ?_
              refine WL.store 1 (.inl rfl) rfl rfl rfl sz3 rfl rfl rfl ?_
              refine WL.val (.inl rfl) rfl (yl_fa fo43_3 rfl) ?_
              refine WL.store 1 (.inl rfl) rfl rfl rfl sz41 rfl rfl rfl ?_
              refine WL.nil (WE.block_normal (WE.block_normal (WE.then_normal (WC.seq (WC.region ?_)))))
              refine WL.val (.inl rfl) rfl (yl_move rfl) ?_
              refine WL.bsliceF (.inl rfl) rfl el22 rfl rfl rfl rfl fun b101 => ?_
              refine WL.strview (T := 9) (m := 1) 0 [[59]] rfl rfl (show 1 ≤ 1 by decide) (by decide) fun H101 hH101 => ?_
              refine WL.front 0 rfl ?_
              refine WL.callwx (ι := (Option Addr × Nat) × Tk) (κ := (Option Addr × Nat) × Tk) [_] _ (.inl rfl) rfl en50 rfl rfl (fun _ => .tuple #[]) (fun i => glassL gb i.1 i.2) (fun i => mustT [[59]] q18 = some i.2 ∧ Sl rdTok 3 HT i.1.1 i.1.2 i.2) (fun _ => brk) (fun i => glassL gb i.1 i.2) (fun _ => mustT [[59]] q18 = none) ([HT, H101]) (by simp) (fun w hw => (must_any gb HT r18 q18 H101 _ _ [[59]] w hH101 hm18 hw).mono fun e w' h => by
                  rcases h with ⟨r2, q, h1, h2, h3, h4⟩ | ⟨r2, q, h1, h2, h3⟩
                  · exact .inl ⟨(r2, q), h1, ⟨h2, h3⟩, h4⟩
                  · exact .inr ⟨(r2, q), h1, h2, h3⟩) ?_ ?_
              ·
                intro ⟨rp, qp⟩ hp
                rw [must1] at hp
                refine WE.then_panic ?_
                refine WE.panics fun w' hw => ?_
                exact .inr ⟨rp, qp, rfl, by simp only [stmtP, simpleP, w_if, w_else, w_while, w_return, w_out, hn45, hn72, hn86, hn94, hq9, hn24, hn31, hq16, hq18, hp, Option.bind_some, Option.map_some, Option.bind_none, Option.map_none], (by have h := hw; have h := Ws.keep (L := [_]) h; have h := Ws.drops h (Vs' := [HT]) (by simp); exact h)⟩
              intro ⟨r102, q102⟩ ⟨hq102, hm102⟩
              have ok102 := tMust ok18 hq102
              rw [must1] at hq102
              refine WL.nil (WE.then_normal (WC.seq (WC.region ?_)))
              refine WL.val (.inl rfl) rfl (yl_ldka 1 rfl rfl ag43 rfl) ?_
              refine WL.store 2 (.inl rfl) rfl rfl rfl sz43 rfl rfl rfl ?_
              refine WL.nil (WE.then_normal (WC.ret ?_))
              refine WE.retR (rs_1 rfl (rv_agg 2 rfl rfl ag43 rfl)) fun w' hw => ?_
              exact .inl ⟨TStmt.mk 1 p9.1 p9.2 [x18] [] [], ⟨(some ⟨b19, 0, none⟩, 1), ((none, 0) : Option Addr × Nat), ((none, 0) : Option Addr × Nat)⟩, r102, q102, rfl, by simp only [stmtP, simpleP, w_if, w_else, w_while, w_return, w_out, hn45, hn72, hn86, hn94, hq9, hn24, hn31, hq16, hq18, hq102, Option.bind_some, Option.map_some, Option.bind_none, Option.map_none], ⟨(slE_of hH19 (nv_vs hw (by simp) fH19) (nv_vs hw (by simp) hf18) ((XEs.nil F18 6).snoc (VLe.refl _) (VLe.refl _) hx18)), Sl.nil, Sl.nil⟩, hm102, Ws.drops (Ws.keep (L := [_]) hw) (fun _ hm => List.mem_append_right [_, _, _, _] hm)⟩
theorem gblock_any (HT : View) (f : Nat) (gb : Nat) (r : Option Addr × Nat) (l : Tk) (d : Nat) (w : World) (hfd : f + d = 7) (hok : TOk l) (hm : Sl rdTok 3 HT r.1 r.2 l) (hw : Ws w (List.flatMap Asr.ids (glassL gb r l)) (glassL gb r l) [HT] w) :
    Calls Tryz.prog 55 #[.pointer (some ⟨gb, 0, none⟩), .int .i64 (d : Int)] w fun e w' => (∃ (x : List TStmt) (s : Option Addr × Nat) (r2 : Option Addr × Nat) (q : Tk), e = .returned (.slice s.1 x.length s.2) ∧ blockP f l = some (x, q) ∧ Sl (RdS 7 f) 6 (nv w w') s.1 s.2 x ∧ Sl rdTok 3 HT r2.1 r2.2 q ∧ Ws w (List.flatMap Asr.ids (glassL gb r l)) (glassL gb r2 q) [HT] w') ∨ (∃ (r2 : Option Addr × Nat) (q : Tk), e = .panicked brk ∧ blockP f l = none ∧ Ws w (List.flatMap Asr.ids (glassL gb r l)) (glassL gb r2 q) [HT] w') := by
  induction f using Nat.strongRecOn generalizing gb r l d w
  rename_i f ih
  refine enter Tryz.func55 rfl 23 rfl rfl ?_
  refine WC.world (W' := Ws w (List.flatMap Asr.ids (glassL gb r l)) (glassL gb r l) [HT]) (fun _ e => by subst e; exact hw) ?_
  refine WC.seq (WC.region ?_)
  refine WL.val (.inl rfl) rfl (yl_assign rfl) ?_
  refine WL.nil (WE.then_normal (WC.seq (WC.seq (WC.region ?_))))
  refine WL.val (.inl rfl) rfl (yl_move rfl) ?_
  refine WL.val (.inl rfl) rfl (yl_gt rfl rfl) ?_
  refine WL.nil (WE.then_normal ?_)
  refine WC.cond rfl (fun hc0 => ?_) (fun hc0 => ?_)
  ·
    have hno : blockP f l = none := by
      obtain rfl : f = 0 := by simp at hc0; omega
      rfl
    refine WC.region ?_
    refine WL.val (.inl rfl) rfl (yl_build zr75 pl75 rfl rfl) ?_
    refine WL.val (.inl rfl) rfl (yl_mki co75 rfl) ?_
    refine WL.panic (.inl rfl) rfl ?_
    refine WE.then_panic ?_
    refine WE.panics fun w' hw => ?_
    exact .inr ⟨r, l, rfl, hno, (by have h := hw; exact h)⟩
  ·
    have hd6 : ¬ 6 < d := by simp at hc0; omega
    obtain ⟨f, rfl⟩ : ∃ k, f = k + 1 := ⟨f - 1, by omega⟩
    have hB : GlassB HT f := fun gb r l d w h1 h2 h3 h4 => ih f (by omega) gb r l d w h1 h2 h3 h4
    refine WC.skip (WE.then_normal (WC.seq (WC.region ?_)))
    refine WL.val (.inl rfl) rfl (yl_move rfl) ?_
    refine WL.bsliceF (.inl rfl) rfl el22 rfl rfl rfl rfl fun b11 => ?_
    refine WL.strview (T := 9) (m := 1) 0 [[123]] rfl rfl (show 1 ≤ 1 by decide) (by decide) fun H11 hH11 => ?_
    refine WL.front 0 rfl ?_
    refine WL.callwx (ι := (Option Addr × Nat) × Tk) (κ := (Option Addr × Nat) × Tk) [_] _ (.inl rfl) rfl en50 rfl rfl (fun _ => .tuple #[]) (fun i => glassL gb i.1 i.2) (fun i => mustT [[123]] l = some i.2 ∧ Sl rdTok 3 HT i.1.1 i.1.2 i.2) (fun _ => brk) (fun i => glassL gb i.1 i.2) (fun _ => mustT [[123]] l = none) ([HT, H11]) (by simp) (fun w hw => (must_any gb HT r l H11 _ _ [[123]] w hH11 hm hw).mono fun e w' h => by
        rcases h with ⟨r2, q, h1, h2, h3, h4⟩ | ⟨r2, q, h1, h2, h3⟩
        · exact .inl ⟨(r2, q), h1, ⟨h2, h3⟩, h4⟩
        · exact .inr ⟨(r2, q), h1, h2, h3⟩) ?_ ?_
    ·
      intro ⟨rp, qp⟩ hp
      rw [must1] at hp
      refine WE.then_panic ?_
      refine WE.panics fun w' hw => ?_
      exact .inr ⟨rp, qp, rfl, by rw [blockP, hp]; rfl, (by have h := hw; have h := Ws.drops h (Vs' := [HT]) (by simp); exact h)⟩
    intro ⟨r12, q12⟩ ⟨hq12, hm12⟩
    have ok12 := tMust hok hq12
    rw [must1] at hq12
    refine WL.nil (WE.then_normal (WC.seq (WC.region ?_)))
    refine WL.val (.inl rfl) rfl (yl_assign rfl) ?_
    refine WL.world (fun _ h => h.osl_nil 43 6) ?_
    refine WL.v0 ?_
    refine WL.nil (WE.then_normal (WC.seq (WC.block ?_)))
    refine WC.loopK (ι := GS) (fun g => [(5, .slice g.a g.es.length g.c)]) [(0, _), (1, _), (4, _)] (fun g => Ws w (List.flatMap Asr.ids (glassL gb r l)) (glassL gb g.r g.q ++ [osT 43 6 SX.cells g.a g.c g.es]) [g.J, HT]) (fun g => (g.es.length + g.q.length ≤ l.length ∧ TOk g.q) ∧ Sl rdTok 3 HT g.r.1 g.r.2 g.q ∧ (Fresh w g.J ∧ SXs g.J f g.es) ∧ ∃ n, g.q.length < n ∧ blockP (f + 1) l = (stmtsL (stmtP (blockP f)) n g.q).map fun p => (g.es.map (·.1) ++ p.1, p.2)) (fun g => g.q.length) ⟨[], none, 0, v0, r12, q12⟩ ⟨⟨by have : q12.length + 1 = l.length := hasT_len hq12; simp; omega, ok12⟩, hm12, ⟨v0_fresh w, SXs.nil _ _⟩, q12.length + 1, by simp, by rw [blockP, hq12]; simp⟩ (sc rfl (sc rfl (sc rfl (sc rfl sn)))) (fun _ h => by have h := h.fronti 1 rfl; have h := Ws.drops h (Vs' := [v0, HT]) (by simp); exact h) ?_
    intro g ⟨⟨hlen, hokg⟩, hmg, ⟨hfJ, hXE⟩, hA⟩
    refine WC.seq (WC.seq (WC.region ?_))
    refine WL.val (.inl rfl) rfl (yl_move rfl) ?_
    refine WL.front 0 rfl ?_
    refine WL.callw (ι := Bool × (Option Addr × Nat) × Tk) [_] _ (.inl rfl) rfl en52 rfl rfl (fun i => .bool i.1) (fun i => glassL gb i.2.1 i.2.2) (fun i => (i.1 = true → hasT [125] g.q = some i.2.2) ∧ (i.1 = false → hasT [125] g.q = none ∧ g.q = i.2.2) ∧ Sl rdTok 3 HT i.2.1.1 i.2.1.2 i.2.2) [HT] (by simp) (fun w hw => has_any gb HT g.r g.q [125] w hmg hw) ?_
    intro ⟨b14, r14, q14⟩ ⟨h14t, h14f, hm14⟩
    refine WL.val (.inl rfl) rfl (yl_not rfl) ?_
    refine WL.nil (WE.then_normal ?_)
    refine WC.cond rfl (fun hc1 => ?_) (fun hc1 => ?_)
    ·
      obtain ⟨hn14, hl14⟩ := h14f (by simpa using hc1)
      subst hl14
      obtain ⟨n, hn, hA⟩ := hA
      obtain ⟨n, rfl⟩ : ∃ k, n = k + 1 := ⟨n - 1, by omega⟩
      refine WC.skip (WE.then_normal (WC.block (WC.region ?_)))
      refine WL.val (.inl rfl) rfl (yl_move rfl) ?_
      refine WL.val (.inl rfl) rfl (yl_move rfl) ?_
      refine WL.val (.inl rfl) rfl (yl_move rfl) ?_
      refine WL.front 0 rfl ?_
      refine WL.callwdx (ι := (TStmt × SAt) × (Option Addr × Nat) × Tk) (κ := (Option Addr × Nat) × Tk) [_] _ (.inl rfl) rfl en80 rfl rfl (fun i => .agg #[.int .i64 (i.1.1).op, st (i.1.1).mod, st (i.1.1).nm, .slice (i.1.2).s1.1 (i.1.1).args.length (i.1.2).s1.2, .slice (i.1.2).s2.1 (i.1.1).body.length (i.1.2).s2.2, .slice (i.1.2).s3.1 (i.1.1).other.length (i.1.2).s3.2]) (fun i => glassL gb i.2.1 i.2.2) (fun F i => stmtP (blockP f) g.q = some (i.1.1, i.2.2) ∧ SlS f F i.1.1 i.1.2 ∧ Sl rdTok 3 HT i.2.1.1 i.2.1.2 i.2.2) (fun _ => brk) (fun i => glassL gb i.1 i.2) (fun _ => stmtP (blockP f) g.q = none) ([HT]) (by simp) (fun _ _ h => h) (fun w hw => (gstmt_any gb HT r14 g.q f d w hB (by omega) hokg hm14 hw).mono fun e w' h => by
          rcases h with ⟨x, s, r2, q, h1, h2, h3, h4, h5⟩ | ⟨r2, q, h1, h2, h3⟩
          · exact .inl ⟨((x, s), r2, q), h1, ⟨h2, h3, h4⟩, h5⟩
          · exact .inr ⟨(r2, q), h1, h2, h3⟩) ?_ ?_
      ·
        intro ⟨rp, qp⟩ hp
        refine WE.block_panic ?_
        refine WE.then_panic ?_
        refine WE.block_panic ?_
        refine WE.then_panic ?_
        refine WE.panics fun w' hw => ?_
        exact .inr ⟨rp, qp, rfl, by rw [hA, stmtsL_bad hn14 hp]; rfl, (by have h := hw; have h := Ws.keep (L := [_]) h; have h := Ws.drops h (Vs' := [HT]) (by simp); exact h)⟩
      intro F19 ⟨⟨x19, s19⟩, r19, q19⟩ hf19 ⟨hq19, hx19, hm19⟩
      have ok19 : TOk q19 := tStmt hokg hq19
      have le19 : q19.length < List.length (g.q) := stmtP_short (blockP_eats f) (hokg).all hq19
      refine WL.vjoin fun J19 j19a j19b j19f => ?_
      refine WL.bsliceF (.inl rfl) rfl el25 rfl rfl rfl rfl fun b20 => ?_
      refine WL.reblk 0 (.cells (SX.cells (x19, s19)).toArray 43 (0, 0)) rfl rfl ?_
      refine WL.appT ((x19, s19) : SX) 2 0 (.inl rfl) rfl el25 rfl rfl rfl rfl rfl rfl (by have := hok.len; omega) (by have := hok.len; omega) fun a21 c21 => ?_
      refine WL.val (.inl rfl) rfl (yl_assign rfl) ?_
      refine WL.nil (WE.block_normal ?_)
      exact WE.again (⟨g.es ++ [(x19, s19)], a21, c21, J19, r19, q19⟩ : GS) (by show q19.length < g.q.length; omega) ⟨⟨by simp; omega, ok19⟩, hm19, ⟨j19f _ hf19 hfJ, SXs.snoc hXE j19b j19a hx19⟩, n, (show q19.length < n by omega), by rw [hA, stmtsL_more hn14 hq19]; simp [Function.comp_def]⟩ (sc rfl (sc rfl (sc rfl (sc rfl sn)))) (fun _ h => by
          have h := h.fronti 2 rfl
          have h := h.fronti 2 rfl
          have h := Ws.keep (L := [_, _]) h
          have h := Ws.drops h (Vs' := [J19, HT]) (by simp)
          exact h)
    ·
      have hq14 := h14t (by simpa using hc1)
      have ok14 := tHas hokg hq14
      obtain ⟨n, hn, hA⟩ := hA
      obtain ⟨n, rfl⟩ : ∃ k, n = k + 1 := ⟨n - 1, by omega⟩
      refine WC.exit (WE.then_exit (WE.then_exit (WE.block_hit (WE.then_normal (WC.seq ?_)))))
      refine WC.oslN (rd := rdSX) 1 rfl (fun k hk => by simp [glassL, blk] at hk; subst hk; simp [outOf, glassL, blk, osl]) SX.cells_len (fun _ _ _ _ h => h) fun K7 fK7 hK7 => ?_
      refine WC.region ?_
      refine WL.val (.inl rfl) rfl (yl_move rfl) ?_
      refine WL.val (.inl rfl) rfl (yl_assign rfl) ?_
      refine WL.nil (WE.then_normal (WC.ret ?_))
      refine WE.ret1 rfl rfl fun w' hw => ?_
      exact .inl ⟨g.es.map (·.1), (g.a, g.c), r14, q14, by rw [List.length_map], by rw [hA, stmtsL_end hq14]; simp, slS_of hK7 (nv_vs hw (by simp) fK7) (nv_vs hw (by simp) hfJ) hXE, hm14, (Ws.drops hw (fun _ hm => List.mem_append_right [_, _] hm))⟩
end Go.Proofs.YtjfldjidhkfnbaaGreatDoor
end
section
namespace Go.Proofs.YtjfldjidhkfnbaaGreatDoor
open Go.Bw
set_option linter.unusedVariables false
set_option linter.unusedSimpArgs false
theorem tDecl {l r : Tk} {pub : Bool} {o : Option TDecl} (h : TOk l) (e : declP pub l = some (o, r)) : TOk r := by
  cases o with
  | none => obtain rfl := declP_none e; exact h
  | some d => exact tEats h (declP_eats h.all e).1
theorem decl_len {l r : Tk} {pub : Bool} {d : TDecl} (h : TOk l) (e : declP pub l = some (some d, r)) : r.length < l.length := by
  have h1 := (declP_eats h.all e).1.2
  rw [h1]
  simp [pubD]
  omega
theorem tProc {l r : Tk} {pub : Bool} {p : TProc} (h : TOk l) (e : procP pub l = some (p, r)) : TOk r := tEats h (procP_eats h.all e).1
theorem proc_len {l r : Tk} {pub : Bool} {p : TProc} (h : TOk l) (e : procP pub l = some (p, r)) : r.length < l.length := by
  have h1 := (procP_eats h.all e).1.2
  rw [h1]
  simp [procB]
  omega
theorem nam_len {l r : Tk} {a : Tx} (h : TOk l) (e : namP l = some (a, r)) : r.length < l.length := by
  have h1 := (namP_eats h.all e).1.2
  rw [h1]
  simp
theorem pub_of {l q : Tk} {b : Bool} (ht : b = true → hasT [112, 117, 98] l = some q) (hf : b = false → hasT [112, 117, 98] l = none ∧ l = q) : pubP l = (b, q) := by
  unfold pubP
  rw [show w_pub = [112, 117, 98] from rfl]
  cases b with
  | true => rw [ht rfl]; rfl
  | false => obtain ⟨h1, h2⟩ := hf rfl; rw [h1, h2]; rfl
theorem tPub {l q : Tk} {b : Bool} (h : TOk l) (ht : b = true → hasT [112, 117, 98] l = some q) (hf : b = false → hasT [112, 117, 98] l = none ∧ l = q) : TOk q ∧ q.length ≤ l.length := by
  cases b with
  | true => exact ⟨tHas h (ht rfl), by have := hasT_len (ht rfl); omega⟩
  | false => obtain ⟨_, h2⟩ := hf rfl; subst h2; exact ⟨h, Nat.le_refl _⟩
theorem paramsL_end {n : Nat} {first : Bool} {l q : Tk} (h : hasT [41] l = some q) : paramsL (n + 1) first l = some ([], q) := by rw [paramsL, h]
theorem paramsL_1 {n : Nat} {l q : Tk} {a : Tx} (h : hasT [41] l = none) (h1 : namP l = some (a, q)) : paramsL (n + 1) true l = (paramsL n false q).map fun p => (a :: p.1, p.2) := by rw [paramsL, h]; simp [h1]
theorem paramsL_1n {n : Nat} {l : Tk} (h : hasT [41] l = none) (h1 : namP l = none) : paramsL (n + 1) true l = none := by rw [paramsL, h]; simp [h1]
theorem paramsL_2 {n : Nat} {l l1 q : Tk} {a : Tx} (h : hasT [41] l = none) (h2 : hasT [44] l = some l1) (h1 : namP l1 = some (a, q)) : paramsL (n + 1) false l = (paramsL n false q).map fun p => (a :: p.1, p.2) := by rw [paramsL, h]; simp [h1, h2]
theorem paramsL_2n {n : Nat} {l : Tk} (h : hasT [41] l = none) (h2 : hasT [44] l = none) : paramsL (n + 1) false l = none := by rw [paramsL, h]; simp [h2]
theorem paramsL_2m {n : Nat} {l l1 : Tk} (h : hasT [41] l = none) (h2 : hasT [44] l = some l1) (h1 : namP l1 = none) : paramsL (n + 1) false l = none := by rw [paramsL, h]; simp [h1, h2]
def isNil (l : List Tx) : Bool := match l with | [] => true | _ => false
theorem isNil_snoc (l : List Tx) (x : Tx) : isNil (l ++ [x]) = false := by cases l <;> rfl
theorem isNil_t {l : List Tx} (h : ¬ 0 < l.length) : isNil l = true := by cases l with | nil => rfl | cons _ _ => exact absurd (by simp) h
theorem isNil_f {l : List Tx} (h : 0 < l.length) : isNil l = false := by cases l with | nil => simp at h | cons _ _ => rfl
structure PAt where
  s1 : Option Addr × Nat
  s2 : Option Addr × Nat
  s3 : Option Addr × Nat
abbrev PX := TProc × PAt
def PX.cells (e : PX) : List Value := procV e.1 e.2.s1.1 e.2.s1.2 e.2.s2.1 e.2.s2.2 e.2.s3.1 e.2.s3.2
theorem PX.cells_len (e : PX) : (PX.cells e).length = 5 := rfl
def rdPX (H : View) (b o : Nat) (e : PX) : Prop := RdC H b o (PX.cells e)
structure SlP (N : View) (x : TProc) (p : PAt) : Prop where
  params : Sl rdStr 1 N p.s1.1 p.s1.2 x.params
  locs : Sl rdStr 1 N p.s2.1 p.s2.2 x.locs
  body : Sl (RdS 7 6) 6 N p.s3.1 p.s3.2 x.body
theorem slStr_mv {H N : View} {c : Nat} {a : Option Addr} {l : List Tx} (h : Sl rdStr 1 H a c l) (hv : VLe H N) : Sl rdStr 1 N a c l := h.imp fun b o y hy => rdStr_mono hv b o y hy
theorem slDecl_mv {H N : View} {c : Nat} {a : Option Addr} {l : List TDecl} (h : Sl rdDecl 4 H a c l) (hv : VLe H N) : Sl rdDecl 4 N a c l := h.imp fun b o y hy => rdDecl_mono hv b o y hy
theorem SlP.mv {H N : View} {x : TProc} {p : PAt} (h : SlP H x p) (hv : VLe H N) : SlP N x p := ⟨slStr_mv h.params hv, slStr_mv h.locs hv, slS_mv h.body hv⟩
def PXs (J : View) (es : List PX) : Prop := ∀ e ∈ es, SlP J e.1 e.2
theorem PXs.nil (J : View) : PXs J [] := by intro e h; simp at h
theorem PXs.snoc {J J1 J2 : View} {es : List PX} {e : PX} (h : PXs J es) (h1 : VLe J J2) (h2 : VLe J1 J2) (he : SlP J1 e.1 e.2) : PXs J2 (es ++ [e]) := by
  intro x hx
  rcases List.mem_append.1 hx with hx | hx
  · exact (h x hx).mv h1
  · rw [List.mem_singleton] at hx
    subst hx
    exact he.mv h2
theorem slP_of {H J N : View} {c : Nat} {a : Option Addr} {es : List PX} (h : Sl rdPX 5 H a c es) (hv : VLe H N) (hJ : VLe J N) (hes : PXs J es) : Sl (RdP 7 6) 5 N a c (es.map (·.1)) := by
  refine ⟨by simpa using h.cap, h.max, h.spot, fun i x hx => ?_⟩
  rw [List.getElem?_map] at hx
  obtain ⟨e, he, rfl⟩ := Option.map_eq_some_iff.1 hx
  obtain ⟨b, o, h1, h2⟩ := h.elt i e he
  have h3 := (hes e (List.mem_of_getElem? he)).mv hJ
  exact ⟨b, o, h1, e.2.s1.1, e.2.s1.2, e.2.s2.1, e.2.s2.2, e.2.s3.1, e.2.s3.2, RdC.mono hv h2, h3.params, h3.locs, h3.body⟩
structure GN where
  ps : List Tx
  a : Option Addr
  c : Nat
  r : Option Addr × Nat
  q : Tk
structure GD where
  ds : List TDecl
  a : Option Addr
  c : Nat
  pub : Bool
  r : Option Addr × Nat
  q : Tk
structure GM where
  ps : List PX
  a : Option Addr
  c : Nat
  J : View
  pub : Bool
  r : Option Addr × Nat
  q : Tk
theorem locsL_end {n : Nat} {l : Tk} (h : hasT [108, 111, 99, 97, 108] l = none) : locsL (n + 1) l = some ([], l) := by rw [locsL, show w_local = [108, 111, 99, 97, 108] from rfl, h]
theorem locsL_more {n : Nat} {l l1 q q2 : Tk} {a : Tx} (h : hasT [108, 111, 99, 97, 108] l = some l1) (h1 : namP l1 = some (a, q)) (h2 : hasT [59] q = some q2) : locsL (n + 1) l = (locsL n q2).map fun p => (a :: p.1, p.2) := by rw [locsL, show w_local = [108, 111, 99, 97, 108] from rfl, h]; simp [h1, h2]
theorem locsL_b1 {n : Nat} {l l1 : Tk} (h : hasT [108, 111, 99, 97, 108] l = some l1) (h1 : namP l1 = none) : locsL (n + 1) l = none := by rw [locsL, show w_local = [108, 111, 99, 97, 108] from rfl, h]; simp [h1]
theorem locsL_b2 {n : Nat} {l l1 q : Tk} {a : Tx} (h : hasT [108, 111, 99, 97, 108] l = some l1) (h1 : namP l1 = some (a, q)) (h2 : hasT [59] q = none) : locsL (n + 1) l = none := by rw [locsL, show w_local = [108, 111, 99, 97, 108] from rfl, h]; simp [h1, h2]
theorem usesL_end {n : Nat} {l : Tk} (h : hasT [117, 115, 101] l = none) : usesL (n + 1) l = some ([], l) := by rw [usesL, show w_use = [117, 115, 101] from rfl, h]
theorem usesL_more {n : Nat} {l l1 q q2 : Tk} {a : Tx} (h : hasT [117, 115, 101] l = some l1) (h1 : namP l1 = some (a, q)) (h2 : hasT [59] q = some q2) : usesL (n + 1) l = (usesL n q2).map fun p => (a :: p.1, p.2) := by rw [usesL, show w_use = [117, 115, 101] from rfl, h]; simp [h1, h2]
theorem usesL_b1 {n : Nat} {l l1 : Tk} (h : hasT [117, 115, 101] l = some l1) (h1 : namP l1 = none) : usesL (n + 1) l = none := by rw [usesL, show w_use = [117, 115, 101] from rfl, h]; simp [h1]
theorem usesL_b2 {n : Nat} {l l1 q : Tk} {a : Tx} (h : hasT [117, 115, 101] l = some l1) (h1 : namP l1 = some (a, q)) (h2 : hasT [59] q = none) : usesL (n + 1) l = none := by rw [usesL, show w_use = [117, 115, 101] from rfl, h]; simp [h1, h2]
theorem declsL_end {n : Nat} {pub : Bool} {l q : Tk} (h : declP pub l = some (none, q)) : declsL (n + 1) pub l = some (([], pub), q) := by rw [declsL, h]; rfl
theorem declsL_more {n : Nat} {pub b : Bool} {l q q2 : Tk} {d : TDecl} (h : declP pub l = some (some d, q)) (h2 : pubP q = (b, q2)) : declsL (n + 1) pub l = (declsL n b q2).map fun p => ((d :: p.1.1, p.1.2), p.2) := by rw [declsL, h]; simp only [Option.bind_some]; rw [h2]
theorem declsL_bad {n : Nat} {pub : Bool} {l : Tk} (h : declP pub l = none) : declsL (n + 1) pub l = none := by rw [declsL, h]; rfl
theorem procsL_end {n : Nat} {pub : Bool} {l : Tk} (h : hasT [112, 114, 111, 99] l = none) : procsL (n + 1) pub l = some (([], pub), l) := by rw [procsL, show w_proc = [112, 114, 111, 99] from rfl, h]
theorem procsL_more {n : Nat} {pub b : Bool} {l l1 q q2 : Tk} {d : TProc} (h0 : hasT [112, 114, 111, 99] l = some l1) (h : procP pub l1 = some (d, q)) (h2 : pubP q = (b, q2)) : procsL (n + 1) pub l = (procsL n b q2).map fun p => ((d :: p.1.1, p.1.2), p.2) := by rw [procsL, show w_proc = [112, 114, 111, 99] from rfl, h0]; simp only; rw [h]; simp only [Option.bind_some]; rw [h2]
theorem procsL_bad {n : Nat} {pub : Bool} {l l1 : Tk} (h0 : hasT [112, 114, 111, 99] l = some l1) (h : procP pub l1 = none) : procsL (n + 1) pub l = none := by rw [procsL, show w_proc = [112, 114, 111, 99] from rfl, h0]; simp only; rw [h]; rfl
theorem pl53 : placesP Tryz.prog 53 = some [(0, 1), (1, 1), (2, 1), (3, 1)] := by kernel_rfl
theorem gdecl_any (gb : Nat) (HT : View) (r : Option Addr × Nat) (l : Tk) (pub : Bool) (w : World) (hok : TOk l) (hm : Sl rdTok 3 HT r.1 r.2 l) (hw : Ws w (List.flatMap Asr.ids (glassL gb r l)) (glassL gb r l) [HT] w) :
    Calls Tryz.prog 53 #[.pointer (some ⟨gb, 0, none⟩), .bool pub] w fun e w' => (∃ (o : Option TDecl) (r2 : Option Addr × Nat) (q : Tk), e = .returned (.tuple #[.agg #[.int .i64 ((o).getD (⟨0, [], pub, 0⟩ : TDecl)).kind, st ((o).getD (⟨0, [], pub, 0⟩ : TDecl)).nm, .bool ((o).getD (⟨0, [], pub, 0⟩ : TDecl)).pub, .int .i64 ((o).getD (⟨0, [], pub, 0⟩ : TDecl)).n], .bool (o).isSome]) ∧ declP pub l = some (o, q) ∧ Sl rdTok 3 HT r2.1 r2.2 q ∧ Ws w (List.flatMap Asr.ids (glassL gb r l)) (glassL gb r2 q) [HT] w') ∨ (∃ (r2 : Option Addr × Nat) (q : Tk), e = .panicked brk ∧ declP pub l = none ∧ Ws w (List.flatMap Asr.ids (glassL gb r l)) (glassL gb r2 q) [HT] w') := by
  refine enter Tryz.func53 rfl 50 rfl rfl ?_
  refine WC.world (W' := Ws w (List.flatMap Asr.ids (glassL gb r l)) (glassL gb r l) [HT]) (fun _ e => by subst e; exact hw) ?_
  refine WC.seq (WC.region ?_)
  refine WL.alloc (.inl rfl) rfl zr53 fun b4 => ?_
  refine WL.val (.inl rfl) rfl (yl_assign rfl) ?_
  refine WL.nil (WE.then_normal (WC.seq (WC.region ?_)))
  refine WL.val (.inl rfl) rfl (yl_move rfl) ?_
  refine WL.val (.inl rfl) rfl (yl_build zr53 pl53 rfl rfl) ?_
  refine WL.alloc (.inl rfl) rfl zr53 fun b6 => ?_
  refine WL.store 0 (.inl rfl) rfl rfl rfl sz53 rfl rfl rfl ?_
  refine WL.nil (WE.then_normal (WC.seq (WC.block (WC.seq (WC.region ?_)))))
  refine WL.val (.inl rfl) rfl (yl_move rfl) ?_
  refine WL.front 2 rfl ?_
  refine WL.callw (ι := Bool × (Option Addr × Nat) × Tk) [_] _ (.inl rfl) rfl en52 rfl rfl (fun i => .bool i.1) (fun i => glassL gb i.2.1 i.2.2) (fun i => (i.1 = true → hasT [99, 111, 110, 115, 116] l = some i.2.2) ∧ (i.1 = false → hasT [99, 111, 110, 115, 116] l = none ∧ l = i.2.2) ∧ Sl rdTok 3 HT i.2.1.1 i.2.1.2 i.2.2) [HT] (by simp) (fun w hw => has_any gb HT r l [99, 111, 110, 115, 116] w hm hw) ?_
  intro ⟨b12, r12, q12⟩ ⟨h12t, h12f, hm12⟩
  refine WL.val (.inl rfl) rfl (yl_assign rfl) ?_
  refine WL.nil (WE.then_normal ?_)
  refine WC.cond rfl (fun hc0 => ?_) (fun hc0 => ?_)
  ·
    have hq12 := h12t hc0
    have ok12 := tHas hok hq12
    refine WC.seq (WC.region ?_)
    refine WL.val (.inl rfl) rfl (yl_move rfl) ?_
    refine WL.front 0 rfl ?_
    refine WL.callwx (ι := (Tx) × (Option Addr × Nat) × Tk) (κ := (Option Addr × Nat) × Tk) [_] _ (.inl rfl) rfl en51 rfl rfl (fun i => st i.1) (fun i => glassL gb i.2.1 i.2.2) (fun i => namP q12 = some (i.1, i.2.2) ∧ Sl rdTok 3 HT i.2.1.1 i.2.1.2 i.2.2) (fun _ => brk) (fun i => glassL gb i.1 i.2) (fun _ => namP q12 = none) ([HT]) (by simp) (fun w hw => (gname_any gb HT r12 q12 w hm12 hw).mono fun e w' h => by
        rcases h with ⟨t, r2, q, h1, h2, h3, h4⟩ | ⟨r2, q, h1, h2, h3⟩
        · exact .inl ⟨(t, r2, q), h1, ⟨h2, h3⟩, h4⟩
        · exact .inr ⟨(r2, q), h1, h2, h3⟩) ?_ ?_
    ·
      intro ⟨rp, qp⟩ hp
      refine WE.then_panic ?_
      refine WE.block_panic ?_
      refine WE.then_panic ?_
      refine WE.panics fun w' hw => ?_
      exact .inr ⟨rp, qp, rfl, by simp only [declP, w_const, w_var, w_array, hq12, hp, Option.bind_some, Option.map_some, Option.bind_none, Option.map_none], (by have h := hw; have h := Ws.keep (L := [_]) h; exact h)⟩
    intro ⟨s14, r14, q14⟩ ⟨hq14, hm14⟩
    have ok14 := tNam ok12 hq14
    refine WL.val (.inl rfl) rfl (yl_fa fo53_0 rfl) ?_
    refine WL.store 1 (.inl rfl) rfl rfl rfl sz3 rfl rfl rfl ?_
    refine WL.val (.inl rfl) rfl (yl_fa fo53_1 rfl) ?_
    refine WL.store 1 (.inl rfl) rfl rfl rfl sz9 rfl rfl rfl ?_
    refine WL.nil (WE.then_normal (WC.seq (WC.region ?_)))
    refine WL.val (.inl rfl) rfl (yl_move rfl) ?_
    refine WL.bsliceF (.inl rfl) rfl el22 rfl rfl rfl rfl fun b18 => ?_
    refine WL.strview (T := 9) (m := 1) 0 [[61]] rfl rfl (show 1 ≤ 1 by decide) (by decide) fun H18 hH18 => ?_
    refine WL.front 0 rfl ?_
    refine WL.callwx (ι := (Option Addr × Nat) × Tk) (κ := (Option Addr × Nat) × Tk) [_] _ (.inl rfl) rfl en50 rfl rfl (fun _ => .tuple #[]) (fun i => glassL gb i.1 i.2) (fun i => mustT [[61]] q14 = some i.2 ∧ Sl rdTok 3 HT i.1.1 i.1.2 i.2) (fun _ => brk) (fun i => glassL gb i.1 i.2) (fun _ => mustT [[61]] q14 = none) ([HT, H18]) (by simp) (fun w hw => (must_any gb HT r14 q14 H18 _ _ [[61]] w hH18 hm14 hw).mono fun e w' h => by
        rcases h with ⟨r2, q, h1, h2, h3, h4⟩ | ⟨r2, q, h1, h2, h3⟩
        · exact .inl ⟨(r2, q), h1, ⟨h2, h3⟩, h4⟩
        · exact .inr ⟨(r2, q), h1, h2, h3⟩) ?_ ?_
    ·
      intro ⟨rp, qp⟩ hp
      rw [must1] at hp
      refine WE.then_panic ?_
      refine WE.block_panic ?_
      refine WE.then_panic ?_
      refine WE.panics fun w' hw => ?_
      exact .inr ⟨rp, qp, rfl, by simp only [declP, w_const, w_var, w_array, hq12, hq14, hp, Option.bind_some, Option.map_some, Option.bind_none, Option.map_none], (by have h := hw; have h := Ws.keep (L := [_]) h; have h := Ws.drops h (Vs' := [HT]) (by simp); exact h)⟩
    intro ⟨r19, q19⟩ ⟨hq19, hm19⟩
    have ok19 := tMust ok14 hq19
    rw [must1] at hq19
    refine WL.nil (WE.then_normal (WC.region ?_))
    refine WL.val (.inl rfl) rfl (yl_move rfl) ?_
    refine WL.front 0 rfl ?_
    refine WL.callwx (ι := (Int) × (Option Addr × Nat) × Tk) (κ := (Option Addr × Nat) × Tk) [_] _ (.inl rfl) rfl en79 rfl rfl (fun i => .int .i64 i.1) (fun i => glassL gb i.2.1 i.2.2) (fun i => numP q19 = some (i.1, i.2.2) ∧ Sl rdTok 3 HT i.2.1.1 i.2.1.2 i.2.2) (fun _ => brk) (fun i => glassL gb i.1 i.2) (fun _ => numP q19 = none) ([HT]) (by simp) (fun w hw => (gnum_any gb HT r19 q19 w hm19 hw).mono fun e w' h => by
        rcases h with ⟨t, r2, q, h1, h2, h3, h4⟩ | ⟨r2, q, h1, h2, h3⟩
        · exact .inl ⟨(t, r2, q), h1, ⟨h2, h3⟩, h4⟩
        · exact .inr ⟨(r2, q), h1, h2, h3⟩) ?_ ?_
    ·
      intro ⟨rp, qp⟩ hp
      refine WE.block_panic ?_
      refine WE.then_panic ?_
      refine WE.panics fun w' hw => ?_
      exact .inr ⟨rp, qp, rfl, by simp only [declP, w_const, w_var, w_array, hq12, hq14, hq19, hp, Option.bind_some, Option.map_some, Option.bind_none, Option.map_none], (by have h := hw; have h := Ws.keep (L := [_]) h; have h := Ws.drops h (Vs' := [HT]) (by simp); exact h)⟩
    intro ⟨n21, r21, q21⟩ ⟨hq21, hm21⟩
    have ok21 := tNum ok19 hq21
    refine WL.val (.inl rfl) rfl (yl_fa fo53_3 rfl) ?_
    refine WL.store 1 (.inl rfl) rfl rfl rfl sz3 rfl rfl rfl ?_
    refine WL.nil (WE.block_normal (WE.then_normal (WC.seq (WC.region ?_))))
    refine WL.val (.inl rfl) rfl (yl_move rfl) ?_
    refine WL.bsliceF (.inl rfl) rfl el22 rfl rfl rfl rfl fun b47 => ?_
    refine WL.strview (T := 9) (m := 1) 0 [[59]] rfl rfl (show 1 ≤ 1 by decide) (by decide) fun H47 hH47 => ?_
    refine WL.front 0 rfl ?_
    refine WL.callwx (ι := (Option Addr × Nat) × Tk) (κ := (Option Addr × Nat) × Tk) [_] _ (.inl rfl) rfl en50 rfl rfl (fun _ => .tuple #[]) (fun i => glassL gb i.1 i.2) (fun i => mustT [[59]] q21 = some i.2 ∧ Sl rdTok 3 HT i.1.1 i.1.2 i.2) (fun _ => brk) (fun i => glassL gb i.1 i.2) (fun _ => mustT [[59]] q21 = none) ([HT, H47]) (by simp) (fun w hw => (must_any gb HT r21 q21 H47 _ _ [[59]] w hH47 hm21 hw).mono fun e w' h => by
        rcases h with ⟨r2, q, h1, h2, h3, h4⟩ | ⟨r2, q, h1, h2, h3⟩
        · exact .inl ⟨(r2, q), h1, ⟨h2, h3⟩, h4⟩
        · exact .inr ⟨(r2, q), h1, h2, h3⟩) ?_ ?_
    ·
      intro ⟨rp, qp⟩ hp
      rw [must1] at hp
      refine WE.then_panic ?_
      refine WE.panics fun w' hw => ?_
      exact .inr ⟨rp, qp, rfl, by simp only [declP, w_const, w_var, w_array, hq12, hq14, hq19, hq21, hp, Option.bind_some, Option.map_some, Option.bind_none, Option.map_none], (by have h := hw; have h := Ws.keep (L := [_]) h; have h := Ws.drops h (Vs' := [HT]) (by simp); exact h)⟩
    intro ⟨r48, q48⟩ ⟨hq48, hm48⟩
    have ok48 := tMust ok21 hq48
    rw [must1] at hq48
    refine WL.nil (WE.then_normal (WC.seq (WC.region ?_)))
    refine WL.val (.inl rfl) rfl (yl_ldka 1 rfl rfl ag53 rfl) ?_
    refine WL.store 2 (.inl rfl) rfl rfl rfl sz53 rfl rfl rfl ?_
    refine WL.val (.inl rfl) rfl (yl_assign rfl) ?_
    refine WL.nil (WE.then_normal (WC.ret ?_))
    refine WE.retR (rs_2 rfl (rv_agg 2 rfl rfl ag53 rfl) (rv_tmp rfl)) fun w' hw => ?_
    exact .inl ⟨some ⟨1, s14, pub, n21⟩, r48, q48, rfl, by simp only [declP, w_const, w_var, w_array, hq12, hq14, hq19, hq21, hq48, Option.bind_some, Option.map_some, Option.bind_none, Option.map_none], hm48, Ws.drops (Ws.keep (L := [_]) hw) (fun _ hm => List.mem_append_right [_, _] hm)⟩
  ·
    obtain ⟨hn12, hl12⟩ := h12f hc0
    subst hl12
    refine WC.seq (WC.region ?_)
    refine WL.val (.inl rfl) rfl (yl_move rfl) ?_
    refine WL.front 0 rfl ?_
    refine WL.callw (ι := Bool × (Option Addr × Nat) × Tk) [_] _ (.inl rfl) rfl en52 rfl rfl (fun i => .bool i.1) (fun i => glassL gb i.2.1 i.2.2) (fun i => (i.1 = true → hasT [118, 97, 114] l = some i.2.2) ∧ (i.1 = false → hasT [118, 97, 114] l = none ∧ l = i.2.2) ∧ Sl rdTok 3 HT i.2.1.1 i.2.1.2 i.2.2) [HT] (by simp) (fun w hw => has_any gb HT r12 l [118, 97, 114] w hm12 hw) ?_
    intro ⟨b25, r25, q25⟩ ⟨h25t, h25f, hm25⟩
    refine WL.val (.inl rfl) rfl (yl_assign rfl) ?_
    refine WL.nil (WE.then_normal ?_)
    refine WC.cond rfl (fun hc1 => ?_) (fun hc1 => ?_)
    ·
      have hq25 := h25t hc1
      have ok25 := tHas hok hq25
      refine WC.region ?_
      refine WL.val (.inl rfl) rfl (yl_move rfl) ?_
      refine WL.front 0 rfl ?_
      refine WL.callwx (ι := (Tx) × (Option Addr × Nat) × Tk) (κ := (Option Addr × Nat) × Tk) [_] _ (.inl rfl) rfl en51 rfl rfl (fun i => st i.1) (fun i => glassL gb i.2.1 i.2.2) (fun i => namP q25 = some (i.1, i.2.2) ∧ Sl rdTok 3 HT i.2.1.1 i.2.1.2 i.2.2) (fun _ => brk) (fun i => glassL gb i.1 i.2) (fun _ => namP q25 = none) ([HT]) (by simp) (fun w hw => (gname_any gb HT r25 q25 w hm25 hw).mono fun e w' h => by
          rcases h with ⟨t, r2, q, h1, h2, h3, h4⟩ | ⟨r2, q, h1, h2, h3⟩
          · exact .inl ⟨(t, r2, q), h1, ⟨h2, h3⟩, h4⟩
          · exact .inr ⟨(r2, q), h1, h2, h3⟩) ?_ ?_
      ·
        intro ⟨rp, qp⟩ hp
        refine WE.block_panic ?_
        refine WE.then_panic ?_
        refine WE.panics fun w' hw => ?_
        exact .inr ⟨rp, qp, rfl, by simp only [declP, w_const, w_var, w_array, hn12, hq25, hp, Option.bind_some, Option.map_some, Option.bind_none, Option.map_none], (by have h := hw; have h := Ws.keep (L := [_]) h; exact h)⟩
      intro ⟨s27, r27, q27⟩ ⟨hq27, hm27⟩
      have ok27 := tNam ok25 hq27
      refine WL.val (.inl rfl) rfl (yl_fa fo53_0 rfl) ?_
      refine WL.store 1 (.inl rfl) rfl rfl rfl sz3 rfl rfl rfl ?_
      refine WL.val (.inl rfl) rfl (yl_fa fo53_1 rfl) ?_
      refine WL.store 1 (.inl rfl) rfl rfl rfl sz9 rfl rfl rfl ?_
      refine WL.nil (WE.block_normal (WE.then_normal (WC.seq (WC.region ?_))))
      refine WL.val (.inl rfl) rfl (yl_move rfl) ?_
      refine WL.bsliceF (.inl rfl) rfl el22 rfl rfl rfl rfl fun b47 => ?_
      refine WL.strview (T := 9) (m := 1) 0 [[59]] rfl rfl (show 1 ≤ 1 by decide) (by decide) fun H47 hH47 => ?_
      refine WL.front 0 rfl ?_
      refine WL.callwx (ι := (Option Addr × Nat) × Tk) (κ := (Option Addr × Nat) × Tk) [_] _ (.inl rfl) rfl en50 rfl rfl (fun _ => .tuple #[]) (fun i => glassL gb i.1 i.2) (fun i => mustT [[59]] q27 = some i.2 ∧ Sl rdTok 3 HT i.1.1 i.1.2 i.2) (fun _ => brk) (fun i => glassL gb i.1 i.2) (fun _ => mustT [[59]] q27 = none) ([HT, H47]) (by simp) (fun w hw => (must_any gb HT r27 q27 H47 _ _ [[59]] w hH47 hm27 hw).mono fun e w' h => by
          rcases h with ⟨r2, q, h1, h2, h3, h4⟩ | ⟨r2, q, h1, h2, h3⟩
          · exact .inl ⟨(r2, q), h1, ⟨h2, h3⟩, h4⟩
          · exact .inr ⟨(r2, q), h1, h2, h3⟩) ?_ ?_
      ·
        intro ⟨rp, qp⟩ hp
        rw [must1] at hp
        refine WE.then_panic ?_
        refine WE.panics fun w' hw => ?_
        exact .inr ⟨rp, qp, rfl, by simp only [declP, w_const, w_var, w_array, hn12, hq25, hq27, hp, Option.bind_some, Option.map_some, Option.bind_none, Option.map_none], (by have h := hw; have h := Ws.keep (L := [_]) h; have h := Ws.drops h (Vs' := [HT]) (by simp); exact h)⟩
      intro ⟨r48, q48⟩ ⟨hq48, hm48⟩
      have ok48 := tMust ok27 hq48
      rw [must1] at hq48
      refine WL.nil (WE.then_normal (WC.seq (WC.region ?_)))
      refine WL.val (.inl rfl) rfl (yl_ldka 1 rfl rfl ag53 rfl) ?_
      refine WL.store 2 (.inl rfl) rfl rfl rfl sz53 rfl rfl rfl ?_
      refine WL.val (.inl rfl) rfl (yl_assign rfl) ?_
      refine WL.nil (WE.then_normal (WC.ret ?_))
      refine WE.retR (rs_2 rfl (rv_agg 2 rfl rfl ag53 rfl) (rv_tmp rfl)) fun w' hw => ?_
      exact .inl ⟨some ⟨2, s27, pub, 0⟩, r48, q48, rfl, by simp only [declP, w_const, w_var, w_array, hn12, hq25, hq27, hq48, Option.bind_some, Option.map_some, Option.bind_none, Option.map_none], hm48, Ws.drops (Ws.keep (L := [_]) hw) (fun _ hm => List.mem_append_right [_] hm)⟩
    ·
      obtain ⟨hn25, hl25⟩ := h25f hc1
      subst hl25
      refine WC.seq (WC.region ?_)
      refine WL.val (.inl rfl) rfl (yl_move rfl) ?_
      refine WL.front 0 rfl ?_
      refine WL.callw (ι := Bool × (Option Addr × Nat) × Tk) [_] _ (.inl rfl) rfl en52 rfl rfl (fun i => .bool i.1) (fun i => glassL gb i.2.1 i.2.2) (fun i => (i.1 = true → hasT [97, 114, 114, 97, 121] l = some i.2.2) ∧ (i.1 = false → hasT [97, 114, 114, 97, 121] l = none ∧ l = i.2.2) ∧ Sl rdTok 3 HT i.2.1.1 i.2.1.2 i.2.2) [HT] (by simp) (fun w hw => has_any gb HT r25 l [97, 114, 114, 97, 121] w hm25 hw) ?_
      intro ⟨b32, r32, q32⟩ ⟨h32t, h32f, hm32⟩
      refine WL.val (.inl rfl) rfl (yl_assign rfl) ?_
      refine WL.nil (WE.then_normal ?_)
      refine WC.cond rfl (fun hc2 => ?_) (fun hc2 => ?_)
      ·
        have hq32 := h32t hc2
        have ok32 := tHas hok hq32
        refine WC.seq (WC.region ?_)
        refine WL.val (.inl rfl) rfl (yl_move rfl) ?_
        refine WL.front 0 rfl ?_
        refine WL.callwx (ι := (Tx) × (Option Addr × Nat) × Tk) (κ := (Option Addr × Nat) × Tk) [_] _ (.inl rfl) rfl en51 rfl rfl (fun i => st i.1) (fun i => glassL gb i.2.1 i.2.2) (fun i => namP q32 = some (i.1, i.2.2) ∧ Sl rdTok 3 HT i.2.1.1 i.2.1.2 i.2.2) (fun _ => brk) (fun i => glassL gb i.1 i.2) (fun _ => namP q32 = none) ([HT]) (by simp) (fun w hw => (gname_any gb HT r32 q32 w hm32 hw).mono fun e w' h => by
            rcases h with ⟨t, r2, q, h1, h2, h3, h4⟩ | ⟨r2, q, h1, h2, h3⟩
            · exact .inl ⟨(t, r2, q), h1, ⟨h2, h3⟩, h4⟩
            · exact .inr ⟨(r2, q), h1, h2, h3⟩) ?_ ?_
        ·
          intro ⟨rp, qp⟩ hp
          refine WE.then_panic ?_
          refine WE.block_panic ?_
          refine WE.then_panic ?_
          refine WE.panics fun w' hw => ?_
          exact .inr ⟨rp, qp, rfl, by simp only [declP, w_const, w_var, w_array, hn12, hn25, hq32, hp, Option.bind_some, Option.map_some, Option.bind_none, Option.map_none], (by have h := hw; have h := Ws.keep (L := [_]) h; exact h)⟩
        intro ⟨s34, r34, q34⟩ ⟨hq34, hm34⟩
        have ok34 := tNam ok32 hq34
        refine WL.val (.inl rfl) rfl (yl_fa fo53_0 rfl) ?_
        refine WL.store 1 (.inl rfl) rfl rfl rfl sz3 rfl rfl rfl ?_
        refine WL.val (.inl rfl) rfl (yl_fa fo53_1 rfl) ?_
        refine WL.store 1 (.inl rfl) rfl rfl rfl sz9 rfl rfl rfl ?_
        refine WL.nil (WE.then_normal (WC.seq (WC.region ?_)))
        refine WL.val (.inl rfl) rfl (yl_move rfl) ?_
        refine WL.bsliceF (.inl rfl) rfl el22 rfl rfl rfl rfl fun b38 => ?_
        refine WL.strview (T := 9) (m := 1) 0 [[91]] rfl rfl (show 1 ≤ 1 by decide) (by decide) fun H38 hH38 => ?_
        refine WL.front 0 rfl ?_
        refine WL.callwx (ι := (Option Addr × Nat) × Tk) (κ := (Option Addr × Nat) × Tk) [_] _ (.inl rfl) rfl en50 rfl rfl (fun _ => .tuple #[]) (fun i => glassL gb i.1 i.2) (fun i => mustT [[91]] q34 = some i.2 ∧ Sl rdTok 3 HT i.1.1 i.1.2 i.2) (fun _ => brk) (fun i => glassL gb i.1 i.2) (fun _ => mustT [[91]] q34 = none) ([HT, H38]) (by simp) (fun w hw => (must_any gb HT r34 q34 H38 _ _ [[91]] w hH38 hm34 hw).mono fun e w' h => by
            rcases h with ⟨r2, q, h1, h2, h3, h4⟩ | ⟨r2, q, h1, h2, h3⟩
            · exact .inl ⟨(r2, q), h1, ⟨h2, h3⟩, h4⟩
            · exact .inr ⟨(r2, q), h1, h2, h3⟩) ?_ ?_
        ·
          intro ⟨rp, qp⟩ hp
          rw [must1] at hp
          refine WE.then_panic ?_
          refine WE.block_panic ?_
          refine WE.then_panic ?_
          refine WE.panics fun w' hw => ?_
          exact .inr ⟨rp, qp, rfl, by simp only [declP, w_const, w_var, w_array, hn12, hn25, hq32, hq34, hp, Option.bind_some, Option.map_some, Option.bind_none, Option.map_none], (by have h := hw; have h := Ws.keep (L := [_]) h; have h := Ws.drops h (Vs' := [HT]) (by simp); exact h)⟩
        intro ⟨r39, q39⟩ ⟨hq39, hm39⟩
        have ok39 := tMust ok34 hq39
        rw [must1] at hq39
        refine WL.nil (WE.then_normal (WC.seq (WC.region ?_)))
        refine WL.val (.inl rfl) rfl (yl_move rfl) ?_
        refine WL.front 0 rfl ?_
        refine WL.callwx (ι := (Int) × (Option Addr × Nat) × Tk) (κ := (Option Addr × Nat) × Tk) [_] _ (.inl rfl) rfl en79 rfl rfl (fun i => .int .i64 i.1) (fun i => glassL gb i.2.1 i.2.2) (fun i => numP q39 = some (i.1, i.2.2) ∧ Sl rdTok 3 HT i.2.1.1 i.2.1.2 i.2.2) (fun _ => brk) (fun i => glassL gb i.1 i.2) (fun _ => numP q39 = none) ([HT]) (by simp) (fun w hw => (gnum_any gb HT r39 q39 w hm39 hw).mono fun e w' h => by
            rcases h with ⟨t, r2, q, h1, h2, h3, h4⟩ | ⟨r2, q, h1, h2, h3⟩
            · exact .inl ⟨(t, r2, q), h1, ⟨h2, h3⟩, h4⟩
            · exact .inr ⟨(r2, q), h1, h2, h3⟩) ?_ ?_
        ·
          intro ⟨rp, qp⟩ hp
          refine WE.then_panic ?_
          refine WE.block_panic ?_
          refine WE.then_panic ?_
          refine WE.panics fun w' hw => ?_
          exact .inr ⟨rp, qp, rfl, by simp only [declP, w_const, w_var, w_array, hn12, hn25, hq32, hq34, hq39, hp, Option.bind_some, Option.map_some, Option.bind_none, Option.map_none], (by have h := hw; have h := Ws.keep (L := [_]) h; have h := Ws.drops h (Vs' := [HT]) (by simp); exact h)⟩
        intro ⟨n41, r41, q41⟩ ⟨hq41, hm41⟩
        have ok41 := tNum ok39 hq41
        refine WL.val (.inl rfl) rfl (yl_fa fo53_3 rfl) ?_
        refine WL.store 1 (.inl rfl) rfl rfl rfl sz3 rfl rfl rfl ?_
        refine WL.nil (WE.then_normal (WC.region ?_))
        refine WL.val (.inl rfl) rfl (yl_move rfl) ?_
        refine WL.bsliceF (.inl rfl) rfl el22 rfl rfl rfl rfl fun b44 => ?_
        refine WL.strview (T := 9) (m := 1) 0 [[93]] rfl rfl (show 1 ≤ 1 by decide) (by decide) fun H44 hH44 => ?_
        refine WL.front 0 rfl ?_
        refine WL.callwx (ι := (Option Addr × Nat) × Tk) (κ := (Option Addr × Nat) × Tk) [_] _ (.inl rfl) rfl en50 rfl rfl (fun _ => .tuple #[]) (fun i => glassL gb i.1 i.2) (fun i => mustT [[93]] q41 = some i.2 ∧ Sl rdTok 3 HT i.1.1 i.1.2 i.2) (fun _ => brk) (fun i => glassL gb i.1 i.2) (fun _ => mustT [[93]] q41 = none) ([HT, H44]) (by simp) (fun w hw => (must_any gb HT r41 q41 H44 _ _ [[93]] w hH44 hm41 hw).mono fun e w' h => by
            rcases h with ⟨r2, q, h1, h2, h3, h4⟩ | ⟨r2, q, h1, h2, h3⟩
            · exact .inl ⟨(r2, q), h1, ⟨h2, h3⟩, h4⟩
            · exact .inr ⟨(r2, q), h1, h2, h3⟩) ?_ ?_
        ·
          intro ⟨rp, qp⟩ hp
          rw [must1] at hp
          refine WE.block_panic ?_
          refine WE.then_panic ?_
          refine WE.panics fun w' hw => ?_
          exact .inr ⟨rp, qp, rfl, by simp only [declP, w_const, w_var, w_array, hn12, hn25, hq32, hq34, hq39, hq41, hp, Option.bind_some, Option.map_some, Option.bind_none, Option.map_none], (by have h := hw; have h := Ws.keep (L := [_]) h; have h := Ws.drops h (Vs' := [HT]) (by simp); exact h)⟩
        intro ⟨r45, q45⟩ ⟨hq45, hm45⟩
        have ok45 := tMust ok41 hq45
        rw [must1] at hq45
        refine WL.nil (WE.block_normal (WE.then_normal (WC.seq (WC.region ?_))))
        refine WL.val (.inl rfl) rfl (yl_move rfl) ?_
        refine WL.bsliceF (.inl rfl) rfl el22 rfl rfl rfl rfl fun b47 => ?_
        refine WL.strview (T := 9) (m := 1) 0 [[59]] rfl rfl (show 1 ≤ 1 by decide) (by decide) fun H47 hH47 => ?_
        refine WL.front 0 rfl ?_
        refine WL.callwx (ι := (Option Addr × Nat) × Tk) (κ := (Option Addr × Nat) × Tk) [_] _ (.inl rfl) rfl en50 rfl rfl (fun _ => .tuple #[]) (fun i => glassL gb i.1 i.2) (fun i => mustT [[59]] q45 = some i.2 ∧ Sl rdTok 3 HT i.1.1 i.1.2 i.2) (fun _ => brk) (fun i => glassL gb i.1 i.2) (fun _ => mustT [[59]] q45 = none) ([HT, H47]) (by simp) (fun w hw => (must_any gb HT r45 q45 H47 _ _ [[59]] w hH47 hm45 hw).mono fun e w' h => by
            rcases h with ⟨r2, q, h1, h2, h3, h4⟩ | ⟨r2, q, h1, h2, h3⟩
            · exact .inl ⟨(r2, q), h1, ⟨h2, h3⟩, h4⟩
            · exact .inr ⟨(r2, q), h1, h2, h3⟩) ?_ ?_
        ·
          intro ⟨rp, qp⟩ hp
          rw [must1] at hp
          refine WE.then_panic ?_
          refine WE.panics fun w' hw => ?_
          exact .inr ⟨rp, qp, rfl, by simp only [declP, w_const, w_var, w_array, hn12, hn25, hq32, hq34, hq39, hq41, hq45, hp, Option.bind_some, Option.map_some, Option.bind_none, Option.map_none], (by have h := hw; have h := Ws.keep (L := [_]) h; have h := Ws.drops h (Vs' := [HT]) (by simp); exact h)⟩
        intro ⟨r48, q48⟩ ⟨hq48, hm48⟩
        have ok48 := tMust ok45 hq48
        rw [must1] at hq48
        refine WL.nil (WE.then_normal (WC.seq (WC.region ?_)))
        refine WL.val (.inl rfl) rfl (yl_ldka 1 rfl rfl ag53 rfl) ?_
        refine WL.store 2 (.inl rfl) rfl rfl rfl sz53 rfl rfl rfl ?_
        refine WL.val (.inl rfl) rfl (yl_assign rfl) ?_
        refine WL.nil (WE.then_normal (WC.ret ?_))
        refine WE.retR (rs_2 rfl (rv_agg 2 rfl rfl ag53 rfl) (rv_tmp rfl)) fun w' hw => ?_
        exact .inl ⟨some ⟨3, s34, pub, n41⟩, r48, q48, rfl, by simp only [declP, w_const, w_var, w_array, hn12, hn25, hq32, hq34, hq39, hq41, hq45, hq48, Option.bind_some, Option.map_some, Option.bind_none, Option.map_none], hm48, Ws.drops (Ws.keep (L := [_]) hw) (fun _ hm => List.mem_append_right [_, _, _] hm)⟩
      ·
        obtain ⟨hn32, hl32⟩ := h32f hc2
        subst hl32
        refine WC.seq (WC.region ?_)
        refine WL.val (.inl rfl) rfl (yl_ldka 1 rfl rfl ag53 rfl) ?_
        refine WL.store 2 (.inl rfl) rfl rfl rfl sz53 rfl rfl rfl ?_
        refine WL.val (.inl rfl) rfl (yl_assign rfl) ?_
        refine WL.nil (WE.then_normal (WC.ret (WE.block_ret (WE.then_ret ?_))))
        refine WE.retR (rs_2 rfl (rv_agg 2 rfl rfl ag53 rfl) (rv_tmp rfl)) fun w' hw => ?_
        exact .inl ⟨none, r32, l, rfl, by simp only [declP, w_const, w_var, w_array, hn12, hn25, hn32, Option.bind_some, Option.map_some, Option.bind_none, Option.map_none], hm32, Ws.keep (L := [_]) hw⟩
end Go.Proofs.YtjfldjidhkfnbaaGreatDoor
end
section
namespace Go.Proofs.YtjfldjidhkfnbaaGreatDoor
open Go.Bw
set_option linter.unusedVariables false
set_option linter.unusedSimpArgs false
def rowP (nm : Tx) (pub : Bool) (a1 : Option Addr) (n1 c1 : Nat) (a2 : Option Addr) (n2 c2 : Nat) (a3 : Option Addr) (n3 c3 : Nat) : List Value := [st nm, .bool pub, .slice a1 n1 c1, .slice a2 n2 c2, .slice a3 n3 c3]
theorem pl56 : placesP Tryz.prog 56 = some [(0, 1), (1, 1), (2, 1), (3, 1), (4, 1)] := by kernel_rfl
theorem sz22 : sizeP Tryz.prog 22 = some 1 := by kernel_rfl
theorem gproc_any (gb : Nat) (HT : View) (r : Option Addr × Nat) (l : Tk) (pub : Bool) (w : World) (hok : TOk l) (hm : Sl rdTok 3 HT r.1 r.2 l) (hw : Ws w (List.flatMap Asr.ids (glassL gb r l)) (glassL gb r l) [HT] w) :
    Calls Tryz.prog 54 #[.pointer (some ⟨gb, 0, none⟩), .bool pub] w fun e w' => (∃ (p : TProc) (s : PAt) (r2 : Option Addr × Nat) (q : Tk), e = .returned (.agg #[st (p).nm, .bool (p).pub, .slice (s).s1.1 (p).params.length (s).s1.2, .slice (s).s2.1 (p).locs.length (s).s2.2, .slice (s).s3.1 (p).body.length (s).s3.2]) ∧ procP pub l = some (p, q) ∧ SlP (nv w w') p s ∧ Sl rdTok 3 HT r2.1 r2.2 q ∧ Ws w (List.flatMap Asr.ids (glassL gb r l)) (glassL gb r2 q) [HT] w') ∨ (∃ (r2 : Option Addr × Nat) (q : Tk), e = .panicked brk ∧ procP pub l = none ∧ Ws w (List.flatMap Asr.ids (glassL gb r l)) (glassL gb r2 q) [HT] w') := by
  refine enter Tryz.func54 rfl 46 rfl rfl ?_
  refine WC.world (W' := Ws w (List.flatMap Asr.ids (glassL gb r l)) (glassL gb r l) [HT]) (fun _ e => by subst e; exact hw) ?_
  refine WC.seq (WC.region ?_)
  refine WL.alloc (.inl rfl) rfl zr56 fun b4 => ?_
  refine WL.reblk 0 (.cells (rowP [] false none 0 0 none 0 0 none 0 0).toArray 56 (0, 0)) rfl rfl ?_
  refine WL.nil (WE.then_normal (WC.seq (WC.region ?_)))
  refine WL.val (.inl rfl) rfl (yl_move rfl) ?_
  refine WL.val (.inl rfl) rfl (yl_move rfl) ?_
  refine WL.front 1 rfl ?_
  refine WL.callwx (ι := (Tx) × (Option Addr × Nat) × Tk) (κ := (Option Addr × Nat) × Tk) [_] _ (.inl rfl) rfl en51 rfl rfl (fun i => st i.1) (fun i => glassL gb i.2.1 i.2.2) (fun i => namP l = some (i.1, i.2.2) ∧ Sl rdTok 3 HT i.2.1.1 i.2.1.2 i.2.2) (fun _ => brk) (fun i => glassL gb i.1 i.2) (fun _ => namP l = none) ([HT]) (by simp) (fun w hw => (gname_any gb HT r l w hm hw).mono fun e w' h => by
      rcases h with ⟨t, r2, q, h1, h2, h3, h4⟩ | ⟨r2, q, h1, h2, h3⟩
      · exact .inl ⟨(t, r2, q), h1, ⟨h2, h3⟩, h4⟩
      · exact .inr ⟨(r2, q), h1, h2, h3⟩) ?_ ?_
  ·
    intro ⟨rp, qp⟩ hp
    refine WE.then_panic ?_
    refine WE.panics fun w' hw => ?_
    exact .inr ⟨rp, qp, rfl, by simp only [procP, hp, Option.bind_none], (by have h := hw; have h := Ws.keep (L := [_]) h; exact h)⟩
  intro ⟨s8, r8, q8⟩ ⟨hq8, hm8⟩
  have ok8 := tNam hok hq8
  refine WL.val (.inl rfl) rfl (yl_build zr56 pl56 rfl rfl) ?_
  refine WL.alloc (.inl rfl) rfl zr56 fun b5 => ?_
  refine WL.store 0 (.inl rfl) rfl rfl rfl sz56 rfl rfl rfl ?_
  refine WL.world (fun _ h => h.osl_nil 9 1) ?_
  refine WL.world (fun _ h => h.osl_nil 9 1) ?_
  refine WL.nil (WE.then_normal (WC.seq (WC.region ?_)))
  refine WL.val (.inl rfl) rfl (yl_move rfl) ?_
  refine WL.bsliceF (.inl rfl) rfl el22 rfl rfl rfl rfl fun b11 => ?_
  refine WL.strview (T := 9) (m := 1) 0 [[40]] rfl rfl (show 1 ≤ 1 by decide) (by decide) fun H11 hH11 => ?_
  refine WL.front 3 rfl ?_
  refine WL.callwx (ι := (Option Addr × Nat) × Tk) (κ := (Option Addr × Nat) × Tk) [_] _ (.inl rfl) rfl en50 rfl rfl (fun _ => .tuple #[]) (fun i => glassL gb i.1 i.2) (fun i => mustT [[40]] q8 = some i.2 ∧ Sl rdTok 3 HT i.1.1 i.1.2 i.2) (fun _ => brk) (fun i => glassL gb i.1 i.2) (fun _ => mustT [[40]] q8 = none) ([HT, H11]) (by simp) (fun w hw => (must_any gb HT r8 q8 H11 _ _ [[40]] w hH11 hm8 hw).mono fun e w' h => by
      rcases h with ⟨r2, q, h1, h2, h3, h4⟩ | ⟨r2, q, h1, h2, h3⟩
      · exact .inl ⟨(r2, q), h1, ⟨h2, h3⟩, h4⟩
      · exact .inr ⟨(r2, q), h1, h2, h3⟩) ?_ ?_
  ·
    intro ⟨rp, qp⟩ hp
    rw [must1] at hp
    refine WE.then_panic ?_
    refine WE.panics fun w' hw => ?_
    exact .inr ⟨rp, qp, rfl, by simp only [procP, hq8, hp, Option.bind_some, Option.bind_none], (by have h := hw; have h := Ws.keep (L := [_]) h; have h := Ws.drops h (Vs' := [HT]) (by simp); exact h)⟩
  intro ⟨r12, q12⟩ ⟨hq12, hm12⟩
  have ok12 := tMust ok8 hq12
  rw [must1] at hq12
  refine WL.nil (WE.then_normal (WC.seq (WC.block ?_)))
  refine WC.loopK (ι := GN) (fun g => []) [(0, _), (4, _), (5, _)] (fun g => Ws w (List.flatMap Asr.ids (glassL gb r l)) (glassL gb g.r g.q ++ [blk b5 (.cells (rowP s8 pub g.a g.ps.length g.c none 0 0 none 0 0).toArray 56 (0, 0)), osT 9 1 strC g.a g.c g.ps, (osT 9 1 strC none 0 ([] : List Tx)), blk b4 (.cells (rowP [] false none 0 0 none 0 0 none 0 0).toArray 56 (0, 0))]) [HT]) (fun g => (g.ps.length + g.q.length ≤ l.length ∧ TOk g.q) ∧ Sl rdTok 3 HT g.r.1 g.r.2 g.q ∧ ∃ n, g.q.length < n ∧ paramsL (q12.length + 1) true q12 = (paramsL n (isNil g.ps) g.q).map fun p => (g.ps ++ p.1, p.2)) (fun g => g.q.length) ⟨[], none, 0, r12, q12⟩ ⟨⟨by have : q8.length < l.length := nam_len hok hq8; have : q12.length + 1 = q8.length := hasT_len hq12; simp; omega, ok12⟩, hm12, q12.length + 1, by simp, by simp [isNil]⟩ (sc rfl (sc rfl (sc rfl sn))) (fun _ h => by have h := h.fronti 4 rfl; have h := h.fronti 3 rfl; have h := h.fronti 3 rfl; have h := h.fronti 4 rfl; have h := h.fronti 4 rfl; have h := Ws.drops h (Vs' := [HT]) (by simp); exact h) ?_
  intro g ⟨⟨hlen, hokg⟩, hmg, hA⟩
  refine WC.seq (WC.seq (WC.region ?_))
  refine WL.val (.inl rfl) rfl (yl_move rfl) ?_
  refine WL.front 0 rfl ?_
  refine WL.callw (ι := Bool × (Option Addr × Nat) × Tk) [_] _ (.inl rfl) rfl en52 rfl rfl (fun i => .bool i.1) (fun i => glassL gb i.2.1 i.2.2) (fun i => (i.1 = true → hasT [41] g.q = some i.2.2) ∧ (i.1 = false → hasT [41] g.q = none ∧ g.q = i.2.2) ∧ Sl rdTok 3 HT i.2.1.1 i.2.1.2 i.2.2) [HT] (by simp) (fun w hw => has_any gb HT g.r g.q [41] w hmg hw) ?_
  intro ⟨b14, r14, q14⟩ ⟨h14t, h14f, hm14⟩
  refine WL.val (.inl rfl) rfl (yl_not rfl) ?_
  refine WL.nil (WE.then_normal ?_)
  refine WC.cond rfl (fun hc0 => ?_) (fun hc0 => ?_)
  ·
    obtain ⟨hn14, hl14⟩ := h14f (by simpa using hc0)
    subst hl14
    obtain ⟨n, hn, hA⟩ := hA
    obtain ⟨n, rfl⟩ : ∃ k, n = k + 1 := ⟨n - 1, by omega⟩
    refine WC.skip (WE.then_normal (WC.block (WC.seq (WC.seq (WC.region ?_)))))
    refine WL.val (.inl rfl) rfl (yl_fa fo56_2 rfl) ?_
    refine WL.val (.inl rfl) rfl (yl_ldk 1 rfl rfl rfl na22) ?_
    refine WL.val (.inl rfl) rfl (yl_len es22 rfl) ?_
    refine WL.val (.inl rfl) rfl (yl_gt rfl rfl) ?_
    refine WL.nil (WE.then_normal ?_)
    refine WC.cond rfl (fun hc1 => ?_) (fun hc1 => ?_)
    ·
      have hps : 0 < g.ps.length := by simpa using hc1
      rw [isNil_f hps] at hA
      refine WC.region ?_
      refine WL.val (.inl rfl) rfl (yl_move rfl) ?_
      refine WL.bsliceF (.inl rfl) rfl el22 rfl rfl rfl rfl fun b21 => ?_
      refine WL.strview (T := 9) (m := 1) 0 [[44]] rfl rfl (show 1 ≤ 1 by decide) (by decide) fun H21 hH21 => ?_
      refine WL.front 0 rfl ?_
      refine WL.callwx (ι := (Option Addr × Nat) × Tk) (κ := (Option Addr × Nat) × Tk) [_] _ (.inl rfl) rfl en50 rfl rfl (fun _ => .tuple #[]) (fun i => glassL gb i.1 i.2) (fun i => mustT [[44]] g.q = some i.2 ∧ Sl rdTok 3 HT i.1.1 i.1.2 i.2) (fun _ => brk) (fun i => glassL gb i.1 i.2) (fun _ => mustT [[44]] g.q = none) ([HT, H21]) (by simp) (fun w hw => (must_any gb HT r14 g.q H21 _ _ [[44]] w hH21 hm14 hw).mono fun e w' h => by
          rcases h with ⟨r2, q, h1, h2, h3, h4⟩ | ⟨r2, q, h1, h2, h3⟩
          · exact .inl ⟨(r2, q), h1, ⟨h2, h3⟩, h4⟩
          · exact .inr ⟨(r2, q), h1, h2, h3⟩) ?_ ?_
      ·
        intro ⟨rp, qp⟩ hp
        rw [must1] at hp
        refine WE.then_panic ?_
        refine WE.block_panic ?_
        refine WE.then_panic ?_
        refine WE.block_panic ?_
        refine WE.then_panic ?_
        refine WE.panics fun w' hw => ?_
        rw [paramsL_2n hn14 hp] at hA
        exact .inr ⟨rp, qp, rfl, by simp only [procP, hq8, hq12, hA, Option.bind_some, Option.bind_none, Option.map_none], (by have h := hw; have h := Ws.keep (L := [_]) h; have h := Ws.drops h (Vs' := [HT]) (by simp); exact h)⟩
      intro ⟨r22, q22⟩ ⟨hq22, hm22⟩
      have ok22 := tMust hokg hq22
      rw [must1] at hq22
      refine WL.nil (WE.then_normal ?_)
      refine WC.drawU (fun _ => true) [0, 1] [6, 7] (.q false 0 (.q true 1 (.q false 2 (.e 3 (.e 4 (.e 5 .nil .stop) .stop) .stop)))) mixed (by kernel_rfl) (fun _ _ _ d _ _ h => by cases d <;> exact h) ?_
      refine WU.q rfl (.inl rfl) rfl (fun _ h => by have h := Ws.out 0 h; have h := Ws.out 1 h; exact h) (yl_fa fo56_2 rfl) ?_
      refine WU.q rfl (.inl rfl) rfl (fun _ h => by have h := Ws.out 0 h; have h := Ws.out 1 h; exact h) (yl_ldk 0 rfl rfl rfl na22) ?_
      refine WU.q rfl (.inl rfl) rfl (fun _ h => by have h := Ws.out 0 h; have h := Ws.out 1 h; exact h) (yl_move rfl) ?_
      refine WU.e rfl (fun _ h => by have h := Ws.out 0 h; have h := Ws.out 1 h; exact h) ?_ WU.stop
      refine WL.front 0 rfl ?_
      refine WL.callwx (ι := (Tx) × (Option Addr × Nat) × Tk) (κ := (Option Addr × Nat) × Tk) [_] _ (.inl rfl) rfl en51 rfl rfl (fun i => st i.1) (fun i => glassL gb i.2.1 i.2.2) (fun i => namP q22 = some (i.1, i.2.2) ∧ Sl rdTok 3 HT i.2.1.1 i.2.1.2 i.2.2) (fun _ => brk) (fun i => glassL gb i.1 i.2) (fun _ => namP q22 = none) ([HT]) (by simp) (fun w hw => (gname_any gb HT r22 q22 w hm22 hw).mono fun e w' h => by
          rcases h with ⟨t, r2, q, h1, h2, h3, h4⟩ | ⟨r2, q, h1, h2, h3⟩
          · exact .inl ⟨(t, r2, q), h1, ⟨h2, h3⟩, h4⟩
          · exact .inr ⟨(r2, q), h1, h2, h3⟩) ?_ ?_
      ·
        intro ⟨rp, qp⟩ hp
        refine WE.then_panic ?_
        refine WE.block_panic ?_
        refine WE.then_panic ?_
        refine WE.block_panic ?_
        refine WE.then_panic ?_
        refine WE.panics fun w' hw => ?_
        rw [paramsL_2m hn14 hq22 hp] at hA
        exact .inr ⟨rp, qp, rfl, by simp only [procP, hq8, hq12, hA, Option.bind_some, Option.bind_none, Option.map_none], (by have h := hw; have h := Ws.keep (L := [_]) h; have h := Ws.drops h (Vs' := [HT]) (by simp); exact h)⟩
      intro ⟨s26, r26, q26⟩ ⟨hq26, hm26⟩
      have ok26 := tNam ok22 hq26
      refine WL.nil (WE.toU ?_)
      refine WU.e rfl (fun _ h => by have h := Ws.out 0 h; have h := Ws.out 1 h; exact h) ?_ WU.stop
      refine WL.bsliceF (.inl rfl) rfl el22 rfl rfl rfl rfl fun b27 => ?_
      refine WL.reblk 0 (.cells (strC s26).toArray 9 (0, 0)) rfl rfl ?_
      refine WL.nil (WE.toU ?_)
      refine WU.e rfl (fun _ h => by have h := Ws.drop (L := [_]) (L' := _) h; have h := Ws.out 0 h; have h := Ws.out 1 h; exact h) ?_ WU.stop
      refine WL.appT (s26 : Tx) 3 0 (.inl rfl) rfl el22 rfl rfl rfl rfl rfl rfl (by have := hok.len; omega) (by have := hok.len; omega) fun a28 c28 => ?_
      refine WL.nil (WE.toU ?_)
      refine WU.nil (fun _ h => by have h := Ws.drop (L := [_]) (L' := _) h; have h := Ws.out 0 h; have h := Ws.out 1 h; exact h) ?_
      refine WS.e rfl ?_
      refine WL.val (.inl rfl) rfl (yl_fa fo56_2 rfl) ?_
      refine WL.nil (WE.toS ?_)
      refine WS.e rfl ?_
      refine WL.store 2 (.inl rfl) rfl rfl rfl sz22 rfl rfl rfl ?_
      refine WL.nil (WE.toS ?_)
      refine WS.nil ?_
      refine WE.block_normal ?_
      exact WE.again (⟨g.ps ++ [s26], a28, c28, r26, q26⟩ : GN) (by have : q26.length < q22.length := nam_len ok22 hq26; have : q22.length + 1 = g.q.length := hasT_len hq22; show q26.length < g.q.length; omega) ⟨⟨by have : q26.length < q22.length := nam_len ok22 hq26; have : q22.length + 1 = g.q.length := hasT_len hq22; simp; omega, ok26⟩, hm26, n, (show q26.length < n by have : q26.length < q22.length := nam_len ok22 hq26; have : q22.length + 1 = g.q.length := hasT_len hq22; omega), by rw [hA, paramsL_2 hn14 hq22 hq26, isNil_snoc]; simp [Function.comp_def]⟩ (sc rfl (sc rfl (sc rfl sn))) (fun _ h => by
          have h := h.fronti 5 rfl
          have h := h.fronti 5 rfl
          have h := h.fronti 5 rfl
          have h := h.fronti 5 rfl
          have h := h.fronti 5 rfl
          have h := Ws.keep (L := [_, _, _, _, _]) h
          have h := Ws.drops h (Vs' := [HT]) (by simp)
          exact h)
    ·
      have hps : ¬ 0 < g.ps.length := by simpa using hc1
      rw [isNil_t hps] at hA
      refine WC.skip (WE.then_normal ?_)
      refine WC.drawU (fun _ => true) [0, 1] [6, 7] (.q false 0 (.q true 1 (.q false 2 (.e 3 (.e 4 (.e 5 .nil .stop) .stop) .stop)))) mixed (by kernel_rfl) (fun _ _ _ d _ _ h => by cases d <;> exact h) ?_
      refine WU.q rfl (.inl rfl) rfl (fun _ h => by have h := Ws.out 0 h; have h := Ws.out 1 h; exact h) (yl_fa fo56_2 rfl) ?_
      refine WU.q rfl (.inl rfl) rfl (fun _ h => by have h := Ws.out 0 h; have h := Ws.out 1 h; exact h) (yl_ldk 0 rfl rfl rfl na22) ?_
      refine WU.q rfl (.inl rfl) rfl (fun _ h => by have h := Ws.out 0 h; have h := Ws.out 1 h; exact h) (yl_move rfl) ?_
      refine WU.e rfl (fun _ h => by have h := Ws.out 0 h; have h := Ws.out 1 h; exact h) ?_ WU.stop
      refine WL.front 0 rfl ?_
      refine WL.callwx (ι := (Tx) × (Option Addr × Nat) × Tk) (κ := (Option Addr × Nat) × Tk) [_] _ (.inl rfl) rfl en51 rfl rfl (fun i => st i.1) (fun i => glassL gb i.2.1 i.2.2) (fun i => namP g.q = some (i.1, i.2.2) ∧ Sl rdTok 3 HT i.2.1.1 i.2.1.2 i.2.2) (fun _ => brk) (fun i => glassL gb i.1 i.2) (fun _ => namP g.q = none) ([HT]) (by simp) (fun w hw => (gname_any gb HT r14 g.q w hm14 hw).mono fun e w' h => by
          rcases h with ⟨t, r2, q, h1, h2, h3, h4⟩ | ⟨r2, q, h1, h2, h3⟩
          · exact .inl ⟨(t, r2, q), h1, ⟨h2, h3⟩, h4⟩
          · exact .inr ⟨(r2, q), h1, h2, h3⟩) ?_ ?_
      ·
        intro ⟨rp, qp⟩ hp
        refine WE.then_panic ?_
        refine WE.block_panic ?_
        refine WE.then_panic ?_
        refine WE.block_panic ?_
        refine WE.then_panic ?_
        refine WE.panics fun w' hw => ?_
        rw [paramsL_1n hn14 hp] at hA
        exact .inr ⟨rp, qp, rfl, by simp only [procP, hq8, hq12, hA, Option.bind_some, Option.bind_none, Option.map_none], (by have h := hw; have h := Ws.keep (L := [_]) h; exact h)⟩
      intro ⟨s26, r26, q26⟩ ⟨hq26, hm26⟩
      have ok26 := tNam hokg hq26
      refine WL.nil (WE.toU ?_)
      refine WU.e rfl (fun _ h => by have h := Ws.out 0 h; have h := Ws.out 1 h; exact h) ?_ WU.stop
      refine WL.bsliceF (.inl rfl) rfl el22 rfl rfl rfl rfl fun b27 => ?_
      refine WL.reblk 0 (.cells (strC s26).toArray 9 (0, 0)) rfl rfl ?_
      refine WL.nil (WE.toU ?_)
      refine WU.e rfl (fun _ h => by have h := Ws.drop (L := [_]) (L' := _) h; have h := Ws.out 0 h; have h := Ws.out 1 h; exact h) ?_ WU.stop
      refine WL.appT (s26 : Tx) 3 0 (.inl rfl) rfl el22 rfl rfl rfl rfl rfl rfl (by have := hok.len; omega) (by have := hok.len; omega) fun a28 c28 => ?_
      refine WL.nil (WE.toU ?_)
      refine WU.nil (fun _ h => by have h := Ws.drop (L := [_]) (L' := _) h; have h := Ws.out 0 h; have h := Ws.out 1 h; exact h) ?_
      refine WS.e rfl ?_
      refine WL.val (.inl rfl) rfl (yl_fa fo56_2 rfl) ?_
      refine WL.nil (WE.toS ?_)
      refine WS.e rfl ?_
      refine WL.store 2 (.inl rfl) rfl rfl rfl sz22 rfl rfl rfl ?_
      refine WL.nil (WE.toS ?_)
      refine WS.nil ?_
      refine WE.block_normal ?_
      exact WE.again (⟨g.ps ++ [s26], a28, c28, r26, q26⟩ : GN) (by have : q26.length < g.q.length := nam_len hokg hq26; show q26.length < g.q.length; omega) ⟨⟨by have : q26.length < g.q.length := nam_len hokg hq26; simp; omega, ok26⟩, hm26, n, (show q26.length < n by have : q26.length < g.q.length := nam_len hokg hq26; omega), by rw [hA, paramsL_1 hn14 hq26, isNil_snoc]; simp [Function.comp_def]⟩ (sc rfl (sc rfl (sc rfl sn))) (fun _ h => by
          have h := h.fronti 5 rfl
          have h := h.fronti 5 rfl
          have h := h.fronti 5 rfl
          have h := h.fronti 5 rfl
          have h := h.fronti 5 rfl
          have h := Ws.keep (L := [_, _, _, _, _]) h
          have h := Ws.drops h (Vs' := [HT]) (by simp)
          exact h)
  ·
    have hq14 := h14t (by simpa using hc0)
    have ok14 := tHas hokg hq14
    obtain ⟨n, hn, hA⟩ := hA
    obtain ⟨n, rfl⟩ : ∃ k, n = k + 1 := ⟨n - 1, by omega⟩
    rw [paramsL_end hq14] at hA
    simp at hA
    refine WC.exit (WE.then_exit (WE.then_exit (WE.block_hit (WE.then_normal (WC.seq ?_)))))
    refine WC.block ?_
    refine WC.loopK (ι := GN) (fun v => []) [(0, _), (4, _), (5, _)] (fun v => Ws w (List.flatMap Asr.ids (glassL gb r l)) (glassL gb v.r v.q ++ [blk b5 (.cells (rowP s8 pub g.a g.ps.length g.c v.a v.ps.length v.c none 0 0).toArray 56 (0, 0)), osT 9 1 strC g.a g.c g.ps, osT 9 1 strC v.a v.c v.ps, blk b4 (.cells (rowP [] false none 0 0 none 0 0 none 0 0).toArray 56 (0, 0))]) [HT]) (fun v => (v.ps.length + v.q.length ≤ l.length ∧ TOk v.q) ∧ Sl rdTok 3 HT v.r.1 v.r.2 v.q ∧ ∃ n, v.q.length < n ∧ locsL (q14.length + 1) q14 = (locsL n v.q).map fun p => (v.ps ++ p.1, p.2)) (fun v => v.q.length) ⟨[], none, 0, r14, q14⟩ ⟨⟨by have : q14.length + 1 = g.q.length := hasT_len hq14; simp; omega, ok14⟩, hm14, q14.length + 1, by simp, by simp⟩ (sc rfl (sc rfl (sc rfl sn))) (fun _ h => h) ?_
    intro v ⟨⟨hlen2, hokv⟩, hmv, hB⟩
    refine WC.seq (WC.seq (WC.region ?_))
    refine WL.val (.inl rfl) rfl (yl_move rfl) ?_
    refine WL.front 0 rfl ?_
    refine WL.callw (ι := Bool × (Option Addr × Nat) × Tk) [_] _ (.inl rfl) rfl en52 rfl rfl (fun i => .bool i.1) (fun i => glassL gb i.2.1 i.2.2) (fun i => (i.1 = true → hasT [108, 111, 99, 97, 108] v.q = some i.2.2) ∧ (i.1 = false → hasT [108, 111, 99, 97, 108] v.q = none ∧ v.q = i.2.2) ∧ Sl rdTok 3 HT i.2.1.1 i.2.1.2 i.2.2) [HT] (by simp) (fun w hw => has_any gb HT v.r v.q [108, 111, 99, 97, 108] w hmv hw) ?_
    intro ⟨b31, r31, q31⟩ ⟨h31t, h31f, hm31⟩
    refine WL.nil (WE.then_normal ?_)
    refine WC.cond rfl (fun hc2 => ?_) (fun hc2 => ?_)
    ·
      have hq31 := h31t hc2
      have ok31 := tHas hokv hq31
      obtain ⟨n, hn, hB⟩ := hB
      obtain ⟨n, rfl⟩ : ∃ k, n = k + 1 := ⟨n - 1, by omega⟩
      refine WC.skip (WE.then_normal (WC.block (WC.seq ?_)))
      refine WC.drawU (fun _ => true) [0, 2] [6, 7] (.q false 0 (.q true 1 (.q false 2 (.e 3 (.e 4 (.e 5 .nil .stop) .stop) .stop)))) mixed (by kernel_rfl) (fun _ _ _ d _ _ h => by cases d <;> exact h) ?_
      refine WU.q rfl (.inl rfl) rfl (fun _ h => by have h := Ws.out 0 h; have h := Ws.out 2 h; exact h) (yl_fa fo56_3 rfl) ?_
      refine WU.q rfl (.inl rfl) rfl (fun _ h => by have h := Ws.out 0 h; have h := Ws.out 2 h; exact h) (yl_ldk 0 rfl rfl rfl na22) ?_
      refine WU.q rfl (.inl rfl) rfl (fun _ h => by have h := Ws.out 0 h; have h := Ws.out 2 h; exact h) (yl_move rfl) ?_
      refine WU.e rfl (fun _ h => by have h := Ws.out 0 h; have h := Ws.out 2 h; exact h) ?_ WU.stop
      refine WL.front 0 rfl ?_
      refine WL.callwx (ι := (Tx) × (Option Addr × Nat) × Tk) (κ := (Option Addr × Nat) × Tk) [_] _ (.inl rfl) rfl en51 rfl rfl (fun i => st i.1) (fun i => glassL gb i.2.1 i.2.2) (fun i => namP q31 = some (i.1, i.2.2) ∧ Sl rdTok 3 HT i.2.1.1 i.2.1.2 i.2.2) (fun _ => brk) (fun i => glassL gb i.1 i.2) (fun _ => namP q31 = none) ([HT]) (by simp) (fun w hw => (gname_any gb HT r31 q31 w hm31 hw).mono fun e w' h => by
          rcases h with ⟨t, r2, q, h1, h2, h3, h4⟩ | ⟨r2, q, h1, h2, h3⟩
          · exact .inl ⟨(t, r2, q), h1, ⟨h2, h3⟩, h4⟩
          · exact .inr ⟨(r2, q), h1, h2, h3⟩) ?_ ?_
      ·
        intro ⟨rp, qp⟩ hp
        refine WE.then_panic ?_
        refine WE.then_panic ?_
        refine WE.block_panic ?_
        refine WE.then_panic ?_
        refine WE.block_panic ?_
        refine WE.then_panic ?_
        refine WE.panics fun w' hw => ?_
        rw [locsL_b1 hq31 hp] at hB
        exact .inr ⟨rp, qp, rfl, by simp only [procP, hq8, hq12, hA, hB, Option.bind_some, Option.bind_none, Option.map_none], (by have h := hw; have h := Ws.keep (L := [_]) h; exact h)⟩
      intro ⟨s35, r35, q35⟩ ⟨hq35, hm35⟩
      have ok35 := tNam ok31 hq35
      refine WL.nil (WE.toU ?_)
      refine WU.e rfl (fun _ h => by have h := Ws.out 0 h; have h := Ws.out 2 h; exact h) ?_ WU.stop
      refine WL.bsliceF (.inl rfl) rfl el22 rfl rfl rfl rfl fun b36 => ?_
      refine WL.reblk 0 (.cells (strC s35).toArray 9 (0, 0)) rfl rfl ?_
      refine WL.nil (WE.toU ?_)
      refine WU.e rfl (fun _ h => by have h := Ws.drop (L := [_]) (L' := _) h; have h := Ws.out 0 h; have h := Ws.out 2 h; exact h) ?_ WU.stop
      refine WL.appT (s35 : Tx) 4 0 (.inl rfl) rfl el22 rfl rfl rfl rfl rfl rfl (by have := hok.len; omega) (by have := hok.len; omega) fun a37 c37 => ?_
      refine WL.nil (WE.toU ?_)
      refine WU.nil (fun _ h => by have h := Ws.drop (L := [_]) (L' := _) h; have h := Ws.out 0 h; have h := Ws.out 2 h; exact h) ?_
      refine WS.e rfl ?_
      refine WL.val (.inl rfl) rfl (yl_fa fo56_3 rfl) ?_
      refine WL.nil (WE.toS ?_)
      refine WS.e rfl ?_
      refine WL.store 2 (.inl rfl) rfl rfl rfl sz22 rfl rfl rfl ?_
      refine WL.nil (WE.toS ?_)
      refine WS.nil ?_
      refine WE.then_normal (WC.region ?_)
      refine WL.val (.inl rfl) rfl (yl_move rfl) ?_
      refine WL.bsliceF (.inl rfl) rfl el22 rfl rfl rfl rfl fun b40 => ?_
      refine WL.strview (T := 9) (m := 1) 0 [[59]] rfl rfl (show 1 ≤ 1 by decide) (by decide) fun H40 hH40 => ?_
      refine WL.front 1 rfl ?_
      refine WL.callwx (ι := (Option Addr × Nat) × Tk) (κ := (Option Addr × Nat) × Tk) [_] _ (.inl rfl) rfl en50 rfl rfl (fun _ => .tuple #[]) (fun i => glassL gb i.1 i.2) (fun i => mustT [[59]] q35 = some i.2 ∧ Sl rdTok 3 HT i.1.1 i.1.2 i.2) (fun _ => brk) (fun i => glassL gb i.1 i.2) (fun _ => mustT [[59]] q35 = none) ([HT, H40]) (by simp) (fun w hw => (must_any gb HT r35 q35 H40 _ _ [[59]] w hH40 hm35 hw).mono fun e w' h => by
          rcases h with ⟨r2, q, h1, h2, h3, h4⟩ | ⟨r2, q, h1, h2, h3⟩
          · exact .inl ⟨(r2, q), h1, ⟨h2, h3⟩, h4⟩
          · exact .inr ⟨(r2, q), h1, h2, h3⟩) ?_ ?_
      ·
        intro ⟨rp, qp⟩ hp
        rw [must1] at hp
        refine WE.block_panic ?_
        refine WE.then_panic ?_
        refine WE.block_panic ?_
        refine WE.then_panic ?_
        refine WE.panics fun w' hw => ?_
        rw [locsL_b2 hq31 hq35 hp] at hB
        exact .inr ⟨rp, qp, rfl, by simp only [procP, hq8, hq12, hA, hB, Option.bind_some, Option.bind_none, Option.map_none], (by have h := hw; have h := Ws.keep (L := [_]) h; have h := Ws.drops h (Vs' := [HT]) (by simp); exact h)⟩
      intro ⟨r41, q41⟩ ⟨hq41, hm41⟩
      have ok41 := tMust ok35 hq41
      rw [must1] at hq41
      refine WL.nil (WE.block_normal ?_)
      exact WE.again (⟨v.ps ++ [s35], a37, c37, r41, q41⟩ : GN) (by have : q31.length + 1 = v.q.length := hasT_len hq31; have : q35.length < q31.length := nam_len ok31 hq35; have : q41.length + 1 = q35.length := hasT_len hq41; show q41.length < v.q.length; omega) ⟨⟨by have : q31.length + 1 = v.q.length := hasT_len hq31; have : q35.length < q31.length := nam_len ok31 hq35; have : q41.length + 1 = q35.length := hasT_len hq41; simp; omega, ok41⟩, hm41, n, (show q41.length < n by have : q31.length + 1 = v.q.length := hasT_len hq31; have : q35.length < q31.length := nam_len ok31 hq35; have : q41.length + 1 = q35.length := hasT_len hq41; omega), by rw [hB, locsL_more hq31 hq35 hq41]; simp [Function.comp_def]⟩ (sc rfl (sc rfl (sc rfl sn))) (fun _ h => by
          have h := h.fronti 5 rfl
          have h := h.fronti 5 rfl
          have h := h.fronti 5 rfl
          have h := h.fronti 5 rfl
          have h := h.fronti 4 rfl
          have h := Ws.keep (L := [_, _, _, _, _]) h
          have h := Ws.drops h (Vs' := [HT]) (by simp)
          exact h)
    ·
      obtain ⟨hn31, hl31⟩ := h31f hc2
      subst hl31
      obtain ⟨n, hn, hB⟩ := hB
      obtain ⟨n, rfl⟩ : ∃ k, n = k + 1 := ⟨n - 1, by omega⟩
      rw [locsL_end hn31] at hB
      simp at hB
      refine WC.exit (WE.then_exit (WE.then_exit (WE.block_hit (WE.then_normal (WC.seq ?_)))))
      refine WC.region ?_
      refine WL.val (.inl rfl) rfl (yl_move rfl) ?_
      refine WL.front 0 rfl ?_
      refine WL.callwdx (ι := ((List TStmt) × (Option Addr × Nat)) × (Option Addr × Nat) × Tk) (κ := (Option Addr × Nat) × Tk) [_] _ (.inl rfl) rfl en55 rfl rfl (fun i => .slice i.1.2.1 i.1.1.length i.1.2.2) (fun i => glassL gb i.2.1 i.2.2) (fun F i => blockP 6 v.q = some (i.1.1, i.2.2) ∧ Sl (RdS 7 6) 6 F i.1.2.1 i.1.2.2 i.1.1 ∧ Sl rdTok 3 HT i.2.1.1 i.2.1.2 i.2.2) (fun _ => brk) (fun i => glassL gb i.1 i.2) (fun _ => blockP 6 v.q = none) ([HT]) (by simp) (fun _ _ h => h) (fun w hw => (gblock_any HT 6 gb r31 v.q (1) w (by omega) hokv hm31 hw).mono fun e w' h => by
          rcases h with ⟨x, s, r2, q, h1, h2, h3, h4, h5⟩ | ⟨r2, q, h1, h2, h3⟩
          · exact .inl ⟨((x, s), r2, q), h1, ⟨h2, h3, h4⟩, h5⟩
          · exact .inr ⟨(r2, q), h1, h2, h3⟩) ?_ ?_
      ·
        intro ⟨rp, qp⟩ hp
        refine WE.then_panic ?_
        refine WE.panics fun w' hw => ?_
        exact .inr ⟨rp, qp, rfl, by simp only [procP, hq8, hq12, hA, hB, hp, Option.bind_some, Option.bind_none, Option.map_none], (by have h := hw; have h := Ws.keep (L := [_]) h; exact h)⟩
      intro F43 ⟨⟨b_43, s43⟩, r43, q43⟩ hf43 ⟨hq43, hx43, hm43⟩
      have ok43 : TOk q43 := tBlock hokv hq43
      refine WL.val (.inl rfl) rfl (yl_fa fo56_4 rfl) ?_
      refine WL.store 1 (.inl rfl) rfl rfl rfl sz25 rfl rfl rfl ?_
      refine WL.nil (WE.then_normal (WC.seq ?_))
      refine WC.oslN (rd := rdStr) 2 rfl (fun k hk => by simp [glassL, blk] at hk; subst hk; simp [outOf, glassL, blk, osl]) strC_len (fun _ _ _ _ h => h) fun KP fKP hKP => ?_
      refine WC.oslN (rd := rdStr) 2 rfl (fun k hk => by simp [glassL, blk] at hk; subst hk; simp [outOf, glassL, blk, osl]) strC_len (fun _ _ _ _ h => h) fun KL fKL hKL => ?_
      refine WC.region ?_
      refine WL.val (.inl rfl) rfl (yl_ldka 1 rfl rfl ag56 rfl) ?_
      refine WL.store 2 (.inl rfl) rfl rfl rfl sz56 rfl rfl rfl ?_
      refine WL.nil (WE.then_normal (WC.ret ?_))
      refine WE.retR (rs_1 rfl (rv_agg 2 rfl rfl ag56 rfl)) fun w' hw => ?_
      exact .inl ⟨⟨s8, pub, g.ps, v.ps, b_43⟩, ⟨(g.a, g.c), (v.a, v.c), s43⟩, r43, q43, rfl, by simp only [procP, hq8, hq12, hA, hB, hq43, Option.bind_some, Option.map_some], ⟨slStr_mv hKP (nv_vs hw (by simp) fKP), slStr_mv hKL (nv_vs hw (by simp) fKL), slS_mv hx43 (nv_vs hw (by simp) hf43)⟩, hm43, Ws.drops (Ws.keep (L := [_]) hw) (fun _ hm => List.mem_append_right [_, _, _] hm)⟩
end Go.Proofs.YtjfldjidhkfnbaaGreatDoor
end
section
namespace Go.Proofs.YtjfldjidhkfnbaaGreatDoor
open Go.Bw
set_option linter.unusedVariables false
set_option linter.unusedSimpArgs false
structure GU where
  us : List Tx
  a : Option Addr
  c : Nat
  r : Option Addr × Nat
  q : Tk
def rowM (nm : Tx) (a1 : Option Addr) (n1 c1 : Nat) (a2 : Option Addr) (n2 c2 : Nat) (a3 : Option Addr) (n3 c3 : Nat) (a4 : Option Addr) (n4 c4 : Nat) : List Value := [st nm, .slice a1 n1 c1, .slice a2 n2 c2, .slice a3 n3 c3, .slice a4 n4 c4]
theorem mod_use {l q1 q2 q3 : Tk} {nm : Tx} (h1 : hasT [109, 111, 100, 117, 108, 101] l = some q1) (h2 : namP q1 = some (nm, q2)) (h3 : hasT [123] q2 = some q3) : modP l = (usesL (q3.length + 1) q3).bind fun u =>
    (declsL ((pubP u.2).2.length + 1) (pubP u.2).1 (pubP u.2).2).bind fun d => (procsL (d.2.length + 1) d.1.2 d.2).bind fun p => if p.1.2 = true then none else
    (hasT w_main p.2).bind fun r => (blockP 6 r).bind fun b => (hasT [125] b.2).map fun r => (⟨nm, u.1, d.1.1, p.1.1, b.1⟩, r) := by
  rw [modP, show w_module = [109, 111, 100, 117, 108, 101] from rfl, h1]; simp only [Option.bind_some]; rw [h2]; simp only [Option.bind_some]; rw [h3]; rfl
theorem zr27 : zeroOf Tryz.prog 27 = some (.agg #[st [], .slice none 0 0, .slice none 0 0, .slice none 0 0, .slice none 0 0]) := by kernel_rfl
theorem pl27 : placesP Tryz.prog 27 = some [(0, 1), (1, 1), (2, 1), (3, 1), (4, 1)] := by kernel_rfl
theorem sz27 : sizeP Tryz.prog 27 = some 5 := by kernel_rfl
theorem en53 : Enters Tryz.prog 53 := enters_of Tryz.func53 (by kernel_rfl) rfl
theorem en54 : Enters Tryz.prog 54 := enters_of Tryz.func54 (by kernel_rfl) rfl
theorem el24 : EltOk Tryz.prog 24 56 (.agg #[st [], .bool false, .slice none 0 0, .slice none 0 0, .slice none 0 0]) 5 96 := eltOk_of (by kernel_rfl)
theorem sz24 : sizeP Tryz.prog 24 = some 1 := by kernel_rfl
theorem el23 : EltOk Tryz.prog 23 53 (.agg #[.int .i64 0, st [], .bool false, .int .i64 0]) 4 40 := eltOk_of (by kernel_rfl)
theorem sz23 : sizeP Tryz.prog 23 = some 1 := by kernel_rfl
theorem gmodule_any (gb : Nat) (HT : View) (r : Option Addr × Nat) (l : Tk) (w : World) (hok : TOk l) (hm : Sl rdTok 3 HT r.1 r.2 l) (hw : Ws w (List.flatMap Asr.ids (glassL gb r l)) (glassL gb r l) [HT] w) :
    Calls Tryz.prog 31 #[.pointer (some ⟨gb, 0, none⟩)] w fun e w' => (∃ (m : TMod) (s : MAt) (r2 : Option Addr × Nat) (q : Tk), e = .returned (.agg (modV m s).toArray) ∧ modP l = some (m, q) ∧ RdM 7 6 (nv w w') s m ∧ Sl rdTok 3 HT r2.1 r2.2 q ∧ Ws w (List.flatMap Asr.ids (glassL gb r l)) (glassL gb r2 q) [HT] w') ∨ (∃ (r2 : Option Addr × Nat) (q : Tk), e = .panicked brk ∧ modP l = none ∧ Ws w (List.flatMap Asr.ids (glassL gb r l)) (glassL gb r2 q) [HT] w') := by
  refine enter Tryz.func31 rfl 71 rfl rfl ?_
  refine WC.world (W' := Ws w (List.flatMap Asr.ids (glassL gb r l)) (glassL gb r l) [HT]) (fun _ e => by subst e; exact hw) ?_
  refine WC.seq (WC.region ?_)
  refine WL.alloc (.inl rfl) rfl zr27 fun b2 => ?_
  refine WL.reblk 0 (.cells (rowM [] none 0 0 none 0 0 none 0 0 none 0 0).toArray 27 (0, 0)) rfl rfl ?_
  refine WL.nil (WE.then_normal (WC.seq (WC.region ?_)))
  refine WL.val (.inl rfl) rfl (yl_move rfl) ?_
  refine WL.bsliceF (.inl rfl) rfl el22 rfl rfl rfl rfl fun b8 => ?_
  refine WL.strview (T := 9) (m := 1) 0 [[109, 111, 100, 117, 108, 101]] rfl rfl (show 1 ≤ 1 by decide) (by decide) fun H8 hH8 => ?_
  refine WL.front 1 rfl ?_
  refine WL.callwx (ι := (Option Addr × Nat) × Tk) (κ := (Option Addr × Nat) × Tk) [_] _ (.inl rfl) rfl en50 rfl rfl (fun _ => .tuple #[]) (fun i => glassL gb i.1 i.2) (fun i => mustT [[109, 111, 100, 117, 108, 101]] l = some i.2 ∧ Sl rdTok 3 HT i.1.1 i.1.2 i.2) (fun _ => brk) (fun i => glassL gb i.1 i.2) (fun _ => mustT [[109, 111, 100, 117, 108, 101]] l = none) ([HT, H8]) (by simp) (fun w hw => (must_any gb HT r l H8 _ _ [[109, 111, 100, 117, 108, 101]] w hH8 hm hw).mono fun e w' h => by
      rcases h with ⟨r2, q, h1, h2, h3, h4⟩ | ⟨r2, q, h1, h2, h3⟩
      · exact .inl ⟨(r2, q), h1, ⟨h2, h3⟩, h4⟩
      · exact .inr ⟨(r2, q), h1, h2, h3⟩) ?_ ?_
  ·
    intro ⟨rp, qp⟩ hp
    rw [must1] at hp
    refine WE.then_panic ?_
    refine WE.panics fun w' hw => ?_
    exact .inr ⟨rp, qp, rfl, by simp only [modP, w_module, hp, Option.bind_none], (by have h := hw; have h := Ws.keep (L := [_]) h; have h := Ws.drops h (Vs' := [HT]) (by simp); exact h)⟩
  intro ⟨r9, q9⟩ ⟨hq9, hm9⟩
  have ok9 := tMust hok hq9
  rw [must1] at hq9
  refine WL.nil (WE.then_normal (WC.seq (WC.region ?_)))
  refine WL.val (.inl rfl) rfl (yl_move rfl) ?_
  refine WL.front 0 rfl ?_
  refine WL.callwx (ι := (Tx) × (Option Addr × Nat) × Tk) (κ := (Option Addr × Nat) × Tk) [_] _ (.inl rfl) rfl en51 rfl rfl (fun i => st i.1) (fun i => glassL gb i.2.1 i.2.2) (fun i => namP q9 = some (i.1, i.2.2) ∧ Sl rdTok 3 HT i.2.1.1 i.2.1.2 i.2.2) (fun _ => brk) (fun i => glassL gb i.1 i.2) (fun _ => namP q9 = none) ([HT]) (by simp) (fun w hw => (gname_any gb HT r9 q9 w hm9 hw).mono fun e w' h => by
      rcases h with ⟨t, r2, q, h1, h2, h3, h4⟩ | ⟨r2, q, h1, h2, h3⟩
      · exact .inl ⟨(t, r2, q), h1, ⟨h2, h3⟩, h4⟩
      · exact .inr ⟨(r2, q), h1, h2, h3⟩) ?_ ?_
  ·
    intro ⟨rp, qp⟩ hp
    refine WE.then_panic ?_
    refine WE.panics fun w' hw => ?_
    exact .inr ⟨rp, qp, rfl, by simp only [modP, w_module, hq9, hp, Option.bind_some, Option.bind_none], (by have h := hw; have h := Ws.keep (L := [_]) h; have h := Ws.drops h (Vs' := [HT]) (by simp); exact h)⟩
  intro ⟨s11, r11, q11⟩ ⟨hq11, hm11⟩
  have ok11 := tNam ok9 hq11
  refine WL.val (.inl rfl) rfl (yl_build zr27 pl27 rfl rfl) ?_
  refine WL.alloc (.inl rfl) rfl zr27 fun b3 => ?_
  refine WL.store 0 (.inl rfl) rfl rfl rfl sz27 rfl rfl rfl ?_
  refine WL.world (fun _ h => h.osl_nil 9 1) ?_
  refine WL.world (fun _ h => h.osl_nil 53 4) ?_
  refine WL.world (fun _ h => h.osl_nil 56 5) ?_
  refine WL.v0 ?_
  refine WL.nil (WE.then_normal (WC.seq (WC.region ?_)))
  refine WL.val (.inl rfl) rfl (yl_move rfl) ?_
  refine WL.bsliceF (.inl rfl) rfl el22 rfl rfl rfl rfl fun b14 => ?_
  refine WL.strview (T := 9) (m := 1) 0 [[123]] rfl rfl (show 1 ≤ 1 by decide) (by decide) fun H14 hH14 => ?_
  refine WL.front 4 rfl ?_
  refine WL.callwx (ι := (Option Addr × Nat) × Tk) (κ := (Option Addr × Nat) × Tk) [_] _ (.inl rfl) rfl en50 rfl rfl (fun _ => .tuple #[]) (fun i => glassL gb i.1 i.2) (fun i => mustT [[123]] q11 = some i.2 ∧ Sl rdTok 3 HT i.1.1 i.1.2 i.2) (fun _ => brk) (fun i => glassL gb i.1 i.2) (fun _ => mustT [[123]] q11 = none) ([HT, H14]) (by simp) (fun w hw => (must_any gb HT r11 q11 H14 _ _ [[123]] w hH14 hm11 hw).mono fun e w' h => by
      rcases h with ⟨r2, q, h1, h2, h3, h4⟩ | ⟨r2, q, h1, h2, h3⟩
      · exact .inl ⟨(r2, q), h1, ⟨h2, h3⟩, h4⟩
      · exact .inr ⟨(r2, q), h1, h2, h3⟩) ?_ ?_
  ·
    intro ⟨rp, qp⟩ hp
    rw [must1] at hp
    refine WE.then_panic ?_
    refine WE.panics fun w' hw => ?_
    exact .inr ⟨rp, qp, rfl, by simp only [modP, w_module, hq9, hq11, hp, Option.bind_some, Option.bind_none], (by have h := hw; have h := Ws.keep (L := [_]) h; have h := Ws.drops h (Vs' := [HT]) (by simp); exact h)⟩
  intro ⟨r15, q15⟩ ⟨hq15, hm15⟩
  have ok15 := tMust ok11 hq15
  rw [must1] at hq15
  refine WL.nil (WE.then_normal (WC.seq (WC.block ?_)))
  refine WC.loopK (ι := GU) (fun g => []) [(0, _), (2, _), (3, _)] (fun g => Ws w (List.flatMap Asr.ids (glassL gb r l)) (glassL gb g.r g.q ++ [blk b3 (.cells (rowM s11 g.a g.us.length g.c none 0 0 none 0 0 none 0 0).toArray 27 (0, 0)), osT 9 1 strC g.a g.c g.us, osT 53 4 TDecl.cells none 0 ([] : List TDecl), osT 56 5 PX.cells none 0 ([] : List PX), blk b2 (.cells (rowM [] none 0 0 none 0 0 none 0 0 none 0 0).toArray 27 (0, 0))]) [v0, HT]) (fun g => (g.us.length + g.q.length ≤ l.length ∧ TOk g.q) ∧ Sl rdTok 3 HT g.r.1 g.r.2 g.q ∧ ∃ n, g.q.length < n ∧ usesL (q15.length + 1) q15 = (usesL n g.q).map fun p => (g.us ++ p.1, p.2)) (fun g => g.q.length) ⟨[], none, 0, r15, q15⟩ ⟨⟨by have : q9.length + 1 = l.length := hasT_len hq9; have : q11.length < q9.length := nam_len ok9 hq11; have : q15.length + 1 = q11.length := hasT_len hq15; simp; omega, ok15⟩, hm15, q15.length + 1, by simp, by simp⟩ (sc rfl (sc rfl (sc rfl sn))) (fun _ h => by have h := h.fronti 5 rfl; have h := h.fronti 2 rfl; have h := h.fronti 3 rfl; have h := h.fronti 4 rfl; have h := h.fronti 5 rfl; have h := h.fronti 5 rfl; have h := Ws.drops h (Vs' := [v0, HT]) (by simp); exact h) ?_
  intro g ⟨⟨hlen, hokg⟩, hmg, hA⟩
  refine WC.seq (WC.seq (WC.region ?_))
  refine WL.val (.inl rfl) rfl (yl_move rfl) ?_
  refine WL.front 0 rfl ?_
  refine WL.callw (ι := Bool × (Option Addr × Nat) × Tk) [_] _ (.inl rfl) rfl en52 rfl rfl (fun i => .bool i.1) (fun i => glassL gb i.2.1 i.2.2) (fun i => (i.1 = true → hasT [117, 115, 101] g.q = some i.2.2) ∧ (i.1 = false → hasT [117, 115, 101] g.q = none ∧ g.q = i.2.2) ∧ Sl rdTok 3 HT i.2.1.1 i.2.1.2 i.2.2) [HT] (by simp) (fun w hw => has_any gb HT g.r g.q [117, 115, 101] w hmg hw) ?_
  intro ⟨b17, r17, q17⟩ ⟨h17t, h17f, hm17⟩
  refine WL.nil (WE.then_normal ?_)
  refine WC.cond rfl (fun hc0 => ?_) (fun hc0 => ?_)
  ·
    have hq17 := h17t hc0
    have ok17 := tHas hokg hq17
    obtain ⟨n, hn, hA⟩ := hA
    obtain ⟨n, rfl⟩ : ∃ k, n = k + 1 := ⟨n - 1, by omega⟩
    refine WC.skip (WE.then_normal (WC.block (WC.seq ?_)))
    refine WC.drawU (fun _ => true) [0, 1] [6, 7] (.q false 0 (.q true 1 (.q false 2 (.e 3 (.e 4 (.e 5 .nil .stop) .stop) .stop)))) mixed (by kernel_rfl) (fun _ _ _ d _ _ h => by cases d <;> exact h) ?_
    refine WU.q rfl (.inl rfl) rfl (fun _ h => by have h := Ws.out 0 h; have h := Ws.out 1 h; exact h) (yl_fa fo27_1 rfl) ?_
    refine WU.q rfl (.inl rfl) rfl (fun _ h => by have h := Ws.out 0 h; have h := Ws.out 1 h; exact h) (yl_ldk 0 rfl rfl rfl na22) ?_
    refine WU.q rfl (.inl rfl) rfl (fun _ h => by have h := Ws.out 0 h; have h := Ws.out 1 h; exact h) (yl_move rfl) ?_
    refine WU.e rfl (fun _ h => by have h := Ws.out 0 h; have h := Ws.out 1 h; exact h) ?_ WU.stop
    refine WL.front 0 rfl ?_
    refine WL.callwx (ι := (Tx) × (Option Addr × Nat) × Tk) (κ := (Option Addr × Nat) × Tk) [_] _ (.inl rfl) rfl en51 rfl rfl (fun i => st i.1) (fun i => glassL gb i.2.1 i.2.2) (fun i => namP q17 = some (i.1, i.2.2) ∧ Sl rdTok 3 HT i.2.1.1 i.2.1.2 i.2.2) (fun _ => brk) (fun i => glassL gb i.1 i.2) (fun _ => namP q17 = none) ([HT]) (by simp) (fun w hw => (gname_any gb HT r17 q17 w hm17 hw).mono fun e w' h => by
        rcases h with ⟨t, r2, q, h1, h2, h3, h4⟩ | ⟨r2, q, h1, h2, h3⟩
        · exact .inl ⟨(t, r2, q), h1, ⟨h2, h3⟩, h4⟩
        · exact .inr ⟨(r2, q), h1, h2, h3⟩) ?_ ?_
    ·
      intro ⟨rp, qp⟩ hp
      refine WE.then_panic ?_
      refine WE.then_panic ?_
      refine WE.block_panic ?_
      refine WE.then_panic ?_
      refine WE.block_panic ?_
      refine WE.then_panic ?_
      refine WE.panics fun w' hw => ?_
      rw [usesL_b1 hq17 hp] at hA
      exact .inr ⟨rp, qp, rfl, by rw [mod_use hq9 hq11 hq15]; simp only [w_main, hA, Option.bind_some, Option.map_some, Option.bind_none, Option.map_none], (by have h := hw; have h := Ws.keep (L := [_]) h; have h := Ws.drops h (Vs' := [HT]) (by simp); exact h)⟩
    intro ⟨s21, r21, q21⟩ ⟨hq21, hm21⟩
    have ok21 := tNam ok17 hq21
    refine WL.nil (WE.toU ?_)
    refine WU.e rfl (fun _ h => by have h := Ws.out 0 h; have h := Ws.out 1 h; exact h) ?_ WU.stop
    refine WL.bsliceF (.inl rfl) rfl el22 rfl rfl rfl rfl fun b22 => ?_
    refine WL.reblk 0 (.cells (strC s21).toArray 9 (0, 0)) rfl rfl ?_
    refine WL.nil (WE.toU ?_)
    refine WU.e rfl (fun _ h => by have h := Ws.drop (L := [_]) (L' := _) h; have h := Ws.out 0 h; have h := Ws.out 1 h; exact h) ?_ WU.stop
    refine WL.appT (s21 : Tx) 3 0 (.inl rfl) rfl el22 rfl rfl rfl rfl rfl rfl (by have := hok.len; omega) (by have := hok.len; omega) fun a23 c23 => ?_
    refine WL.nil (WE.toU ?_)
    refine WU.nil (fun _ h => by have h := Ws.drop (L := [_]) (L' := _) h; have h := Ws.out 0 h; have h := Ws.out 1 h; exact h) ?_
    refine WS.e rfl ?_
    refine WL.val (.inl rfl) rfl (yl_fa fo27_1 rfl) ?_
    refine WL.nil (WE.toS ?_)
    refine WS.e rfl ?_
    refine WL.store 2 (.inl rfl) rfl rfl rfl sz22 rfl rfl rfl ?_
    refine WL.nil (WE.toS ?_)
    refine WS.nil ?_
    refine WE.then_normal (WC.region ?_)
    refine WL.val (.inl rfl) rfl (yl_move rfl) ?_
    refine WL.bsliceF (.inl rfl) rfl el22 rfl rfl rfl rfl fun b26 => ?_
    refine WL.strview (T := 9) (m := 1) 0 [[59]] rfl rfl (show 1 ≤ 1 by decide) (by decide) fun H26 hH26 => ?_
    refine WL.front 1 rfl ?_
    refine WL.callwx (ι := (Option Addr × Nat) × Tk) (κ := (Option Addr × Nat) × Tk) [_] _ (.inl rfl) rfl en50 rfl rfl (fun _ => .tuple #[]) (fun i => glassL gb i.1 i.2) (fun i => mustT [[59]] q21 = some i.2 ∧ Sl rdTok 3 HT i.1.1 i.1.2 i.2) (fun _ => brk) (fun i => glassL gb i.1 i.2) (fun _ => mustT [[59]] q21 = none) ([HT, H26]) (by simp) (fun w hw => (must_any gb HT r21 q21 H26 _ _ [[59]] w hH26 hm21 hw).mono fun e w' h => by
        rcases h with ⟨r2, q, h1, h2, h3, h4⟩ | ⟨r2, q, h1, h2, h3⟩
        · exact .inl ⟨(r2, q), h1, ⟨h2, h3⟩, h4⟩
        · exact .inr ⟨(r2, q), h1, h2, h3⟩) ?_ ?_
    ·
      intro ⟨rp, qp⟩ hp
      rw [must1] at hp
      refine WE.block_panic ?_
      refine WE.then_panic ?_
      refine WE.block_panic ?_
      refine WE.then_panic ?_
      refine WE.panics fun w' hw => ?_
      rw [usesL_b2 hq17 hq21 hp] at hA
      exact .inr ⟨rp, qp, rfl, by rw [mod_use hq9 hq11 hq15]; simp only [w_main, hA, Option.bind_some, Option.map_some, Option.bind_none, Option.map_none], (by have h := hw; have h := Ws.keep (L := [_]) h; have h := Ws.drops h (Vs' := [HT]) (by simp); exact h)⟩
    intro ⟨r27, q27⟩ ⟨hq27, hm27⟩
    have ok27 := tMust ok21 hq27
    rw [must1] at hq27
    refine WL.nil (WE.block_normal ?_)
    exact WE.again (⟨g.us ++ [s21], a23, c23, r27, q27⟩ : GU) (by have : q17.length + 1 = g.q.length := hasT_len hq17; have : q21.length < q17.length := nam_len ok17 hq21; have : q27.length + 1 = q21.length := hasT_len hq27; show q27.length < g.q.length; omega) ⟨⟨by have : q17.length + 1 = g.q.length := hasT_len hq17; have : q21.length < q17.length := nam_len ok17 hq21; have : q27.length + 1 = q21.length := hasT_len hq27; simp; omega, ok27⟩, hm27, n, (show q27.length < n by have : q17.length + 1 = g.q.length := hasT_len hq17; have : q21.length < q17.length := nam_len ok17 hq21; have : q27.length + 1 = q21.length := hasT_len hq27; omega), by rw [hA, usesL_more hq17 hq21 hq27]; simp [Function.comp_def]⟩ (sc rfl (sc rfl (sc rfl sn))) (fun _ h => by
        have h := h.fronti 6 rfl
        have h := h.fronti 6 rfl
        have h := h.fronti 6 rfl
        have h := h.fronti 6 rfl
        have h := h.fronti 6 rfl
        have h := h.fronti 5 rfl
        have h := Ws.keep (L := [_, _, _, _, _, _]) h
        have h := Ws.drops h (Vs' := [v0, HT]) (by simp)
        exact h)
  ·
    obtain ⟨hn17, hl17⟩ := h17f hc0
    subst hl17
    obtain ⟨n, hn, hA⟩ := hA
    obtain ⟨n, rfl⟩ : ∃ k, n = k + 1 := ⟨n - 1, by omega⟩
    rw [usesL_end hn17] at hA
    simp at hA
    refine WC.exit (WE.then_exit (WE.then_exit (WE.block_hit (WE.then_normal (WC.seq ?_)))))
    refine WC.region ?_
    refine WL.val (.inl rfl) rfl (yl_move rfl) ?_
    refine WL.front 0 rfl ?_
    refine WL.callw (ι := Bool × (Option Addr × Nat) × Tk) [_] _ (.inl rfl) rfl en52 rfl rfl (fun i => .bool i.1) (fun i => glassL gb i.2.1 i.2.2) (fun i => (i.1 = true → hasT [112, 117, 98] g.q = some i.2.2) ∧ (i.1 = false → hasT [112, 117, 98] g.q = none ∧ g.q = i.2.2) ∧ Sl rdTok 3 HT i.2.1.1 i.2.1.2 i.2.2) [HT] (by simp) (fun w hw => has_any gb HT r17 g.q [112, 117, 98] w hm17 hw) ?_
    intro ⟨b29, r29, q29⟩ ⟨h29t, h29f, hm29⟩
    have hp29 : pubP g.q = (b29, q29) := pub_of h29t h29f
    obtain ⟨ok29, le29⟩ : TOk q29 ∧ q29.length ≤ List.length (g.q) := tPub hokg h29t h29f
    refine WL.val (.inl rfl) rfl (yl_assign rfl) ?_
    refine WL.nil (WE.then_normal (WC.seq (WC.block ?_)))
    refine WC.loopK (ι := GD) (fun v => [(4, .bool v.pub)]) [(0, _), (2, _), (3, _)] (fun v => Ws w (List.flatMap Asr.ids (glassL gb r l)) (glassL gb v.r v.q ++ [blk b3 (.cells (rowM s11 g.a g.us.length g.c v.a v.ds.length v.c none 0 0 none 0 0).toArray 27 (0, 0)), osT 9 1 strC g.a g.c g.us, osT 53 4 TDecl.cells v.a v.c v.ds, osT 56 5 PX.cells none 0 ([] : List PX), blk b2 (.cells (rowM [] none 0 0 none 0 0 none 0 0 none 0 0).toArray 27 (0, 0))]) [v0, HT]) (fun v => (v.ds.length + v.q.length ≤ l.length ∧ TOk v.q) ∧ Sl rdTok 3 HT v.r.1 v.r.2 v.q ∧ ∃ n, v.q.length < n ∧ declsL (q29.length + 1) b29 q29 = (declsL n v.pub v.q).map fun p => ((v.ds ++ p.1.1, p.1.2), p.2)) (fun v => v.q.length) ⟨[], none, 0, b29, r29, q29⟩ ⟨⟨by simp; omega, ok29⟩, hm29, q29.length + 1, by simp, by simp⟩ (sc rfl (sc rfl (sc rfl (sc rfl sn)))) (fun _ h => h) ?_
    intro v ⟨⟨hlen2, hokv⟩, hmv, hB⟩
    refine WC.block (WC.seq (WC.region ?_))
    refine WL.val (.inl rfl) rfl (yl_move rfl) ?_
    refine WL.val (.inl rfl) rfl (yl_move rfl) ?_
    refine WL.front 0 rfl ?_
    refine WL.callwx (ι := (Option TDecl) × (Option Addr × Nat) × Tk) (κ := (Option Addr × Nat) × Tk) [_] _ (.inl rfl) rfl en53 rfl rfl (fun i => .tuple #[.agg #[.int .i64 ((i.1).getD (⟨0, [], v.pub, 0⟩ : TDecl)).kind, st ((i.1).getD (⟨0, [], v.pub, 0⟩ : TDecl)).nm, .bool ((i.1).getD (⟨0, [], v.pub, 0⟩ : TDecl)).pub, .int .i64 ((i.1).getD (⟨0, [], v.pub, 0⟩ : TDecl)).n], .bool (i.1).isSome]) (fun i => glassL gb i.2.1 i.2.2) (fun i => declP v.pub v.q = some (i.1, i.2.2) ∧ Sl rdTok 3 HT i.2.1.1 i.2.1.2 i.2.2) (fun _ => brk) (fun i => glassL gb i.1 i.2) (fun _ => declP v.pub v.q = none) ([HT]) (by simp) (fun w hw => (gdecl_any gb HT v.r v.q v.pub w hokv hmv hw).mono fun e w' h => by
        rcases h with ⟨t, r2, q, h1, h2, h3, h4⟩ | ⟨r2, q, h1, h2, h3⟩
        · exact .inl ⟨(t, r2, q), h1, ⟨h2, h3⟩, h4⟩
        · exact .inr ⟨(r2, q), h1, h2, h3⟩) ?_ ?_
    ·
      intro ⟨rp, qp⟩ hp
      refine WE.then_panic ?_
      refine WE.block_panic ?_
      refine WE.then_panic ?_
      refine WE.block_panic ?_
      refine WE.then_panic ?_
      refine WE.panics fun w' hw => ?_
      obtain ⟨n, hn, hB⟩ := hB
      obtain ⟨n, rfl⟩ : ∃ k, n = k + 1 := ⟨n - 1, by omega⟩
      rw [declsL_bad hp] at hB
      exact .inr ⟨rp, qp, rfl, by rw [mod_use hq9 hq11 hq15]; simp only [w_main, hA, hp29, hB, Option.bind_some, Option.map_some, Option.bind_none, Option.map_none], (by have h := hw; have h := Ws.keep (L := [_]) h; have h := Ws.drops h (Vs' := [HT]) (by simp); exact h)⟩
    intro ⟨o33, r33, q33⟩ ⟨hq33, hm33⟩
    have ok33 := tDecl hokv hq33
    refine WL.val (.inl rfl) rfl (yl_move rfl) ?_
    refine WL.val (.inl rfl) rfl (yl_extract rfl rfl) ?_
    refine WL.val (.inl rfl) rfl (yl_extract rfl rfl) ?_
    refine WL.alloc (.inl rfl) rfl zr53 fun b5 => ?_
    refine WL.store 0 (.inl rfl) rfl rfl rfl sz53 rfl rfl rfl ?_
    refine WL.val (.inl rfl) rfl (yl_assign rfl) ?_
    refine WL.nil (WE.then_normal (WC.seq (WC.seq (WC.region ?_))))
    refine WL.val (.inl rfl) rfl (yl_move rfl) ?_
    refine WL.val (.inl rfl) rfl (yl_not rfl) ?_
    refine WL.nil (WE.then_normal ?_)
    refine WC.cond rfl (fun hc1 => ?_) (fun hc1 => ?_)
    ·
      obtain ⟨n, hn, hB⟩ := hB
      obtain ⟨n, rfl⟩ : ∃ k, n = k + 1 := ⟨n - 1, by omega⟩
      cases hd33 : o33 with
      | some x => rw [hd33] at hc1; simp at hc1
      | none =>
      rw [hd33] at hq33
      have hq33b : q33 = v.q := declP_none hq33
      rw [declsL_end hq33] at hB
      simp at hB
      refine WC.exit (WE.then_exit (WE.block_miss rfl (WE.then_exit (WE.block_hit (WE.then_normal ?_)))))
      refine WC.seq (WC.block ?_)
      refine WC.loopK (ι := GM) (fun e => [(4, .bool e.pub)]) [(0, _), (2, _), (3, _)] (fun e => Ws w (List.flatMap Asr.ids (glassL gb r l)) (glassL gb e.r e.q ++ [blk b3 (.cells (rowM s11 g.a g.us.length g.c v.a v.ds.length v.c e.a e.ps.length e.c none 0 0).toArray 27 (0, 0)), osT 9 1 strC g.a g.c g.us, osT 53 4 TDecl.cells v.a v.c v.ds, osT 56 5 PX.cells e.a e.c e.ps, blk b2 (.cells (rowM [] none 0 0 none 0 0 none 0 0 none 0 0).toArray 27 (0, 0))]) [e.J, HT]) (fun e => (e.ps.length + e.q.length ≤ l.length ∧ TOk e.q) ∧ Sl rdTok 3 HT e.r.1 e.r.2 e.q ∧ (Fresh w e.J ∧ PXs e.J e.ps) ∧ ∃ n, e.q.length < n ∧ procsL (q33.length + 1) v.pub q33 = (procsL n e.pub e.q).map fun p => ((e.ps.map (·.1) ++ p.1.1, p.1.2), p.2)) (fun e => e.q.length) ⟨[], none, 0, v0, v.pub, r33, q33⟩ ⟨⟨(by have h := congrArg List.length hq33b; simp at h ⊢; omega), ok33⟩, hm33, ⟨v0_fresh w, PXs.nil _⟩, q33.length + 1, by simp, by simp⟩ (sc rfl (sc rfl (sc rfl (sc rfl sn)))) (fun _ h => by have h := h.fronti 6 rfl; have h := h.fronti 6 rfl; have h := h.fronti 6 rfl; have h := h.fronti 6 rfl; have h := h.fronti 6 rfl; have h := h.fronti 6 rfl; have h := Ws.keep (L := [_, _, _, _, _, _]) h; have h := Ws.drops h (Vs' := [v0, HT]) (by simp); exact h) ?_
      intro e ⟨⟨hlen3, hoke⟩, hme, ⟨hfJ, hPX⟩, hC⟩
      refine WC.seq (WC.seq (WC.region ?_))
      refine WL.val (.inl rfl) rfl (yl_move rfl) ?_
      refine WL.front 0 rfl ?_
      refine WL.callw (ι := Bool × (Option Addr × Nat) × Tk) [_] _ (.inl rfl) rfl en52 rfl rfl (fun i => .bool i.1) (fun i => glassL gb i.2.1 i.2.2) (fun i => (i.1 = true → hasT [112, 114, 111, 99] e.q = some i.2.2) ∧ (i.1 = false → hasT [112, 114, 111, 99] e.q = none ∧ e.q = i.2.2) ∧ Sl rdTok 3 HT i.2.1.1 i.2.1.2 i.2.2) [HT] (by simp) (fun w hw => has_any gb HT e.r e.q [112, 114, 111, 99] w hme hw) ?_
      intro ⟨b47, r47, q47⟩ ⟨h47t, h47f, hm47⟩
      refine WL.nil (WE.then_normal ?_)
      refine WC.cond rfl (fun hc2 => ?_) (fun hc2 => ?_)
      ·
        have hq47 := h47t hc2
        have ok47 := tHas hoke hq47
        obtain ⟨n, hn, hC⟩ := hC
        obtain ⟨n, rfl⟩ : ∃ k, n = k + 1 := ⟨n - 1, by omega⟩
        refine WC.skip (WE.then_normal (WC.block (WC.seq ?_)))
        refine WC.drawU (fun _ => true) [0, 3] [7, 8] (.q false 0 (.q true 1 (.q false 2 (.q false 3 (.e 4 (.e 5 (.e 6 .nil .stop) .stop) .stop))))) mixed (by kernel_rfl) (fun _ _ _ d _ _ h => by cases d <;> exact h) ?_
        refine WU.q rfl (.inl rfl) rfl (fun _ h => by have h := Ws.out 0 h; have h := Ws.out 3 h; exact h) (yl_fa fo27_3 rfl) ?_
        refine WU.q rfl (.inl rfl) rfl (fun _ h => by have h := Ws.out 0 h; have h := Ws.out 3 h; exact h) (yl_ldk 0 rfl rfl rfl na24) ?_
        refine WU.q rfl (.inl rfl) rfl (fun _ h => by have h := Ws.out 0 h; have h := Ws.out 3 h; exact h) (yl_move rfl) ?_
        refine WU.q rfl (.inl rfl) rfl (fun _ h => by have h := Ws.out 0 h; have h := Ws.out 3 h; exact h) (yl_move rfl) ?_
        refine WU.e rfl (fun _ h => by have h := Ws.out 0 h; have h := Ws.out 3 h; exact h) ?_ WU.stop
        refine WL.front 0 rfl ?_
        refine WL.callwdx (ι := (TProc × PAt) × (Option Addr × Nat) × Tk) (κ := (Option Addr × Nat) × Tk) [_] _ (.inl rfl) rfl en54 rfl rfl (fun i => .agg #[st (i.1.1).nm, .bool (i.1.1).pub, .slice (i.1.2).s1.1 (i.1.1).params.length (i.1.2).s1.2, .slice (i.1.2).s2.1 (i.1.1).locs.length (i.1.2).s2.2, .slice (i.1.2).s3.1 (i.1.1).body.length (i.1.2).s3.2]) (fun i => glassL gb i.2.1 i.2.2) (fun F i => procP e.pub q47 = some (i.1.1, i.2.2) ∧ SlP F i.1.1 i.1.2 ∧ Sl rdTok 3 HT i.2.1.1 i.2.1.2 i.2.2) (fun _ => brk) (fun i => glassL gb i.1 i.2) (fun _ => procP e.pub q47 = none) ([HT]) (by simp) (fun _ _ h => h) (fun w hw => (gproc_any gb HT r47 q47 e.pub w ok47 hm47 hw).mono fun e w' h => by
            rcases h with ⟨x, s, r2, q, h1, h2, h3, h4, h5⟩ | ⟨r2, q, h1, h2, h3⟩
            · exact .inl ⟨((x, s), r2, q), h1, ⟨h2, h3, h4⟩, h5⟩
            · exact .inr ⟨(r2, q), h1, h2, h3⟩) ?_ ?_
        ·
          intro ⟨rp, qp⟩ hp
          refine WE.then_panic ?_
          refine WE.then_panic ?_
          refine WE.block_panic ?_
          refine WE.then_panic ?_
          refine WE.block_panic ?_
          refine WE.then_panic ?_
          refine WE.panics fun w' hw => ?_
          rw [procsL_bad hq47 hp] at hC
          exact .inr ⟨rp, qp, rfl, by rw [mod_use hq9 hq11 hq15]; simp only [w_main, hA, hp29, hB, hC, Option.bind_some, Option.map_some, Option.bind_none, Option.map_none], (by have h := hw; have h := Ws.keep (L := [_]) h; have h := Ws.drops h (Vs' := [HT]) (by simp); exact h)⟩
        intro F52 ⟨⟨p52, s52⟩, r52, q52⟩ hf52 ⟨hq52, hx52, hm52⟩
        have ok52 : TOk q52 := tProc ok47 hq52
        refine WL.nil (WE.toU ?_)
        refine WU.e rfl (fun _ h => by have h := Ws.out 0 h; have h := Ws.out 3 h; have h := Ws.drops h (fun _ hm => List.mem_append_right [_] hm); exact h) ?_ WU.stop
        refine WL.bsliceF (.inl rfl) rfl el24 rfl rfl rfl rfl fun b53 => ?_
        refine WL.reblk 0 (.cells (PX.cells (p52, s52)).toArray 56 (0, 0)) rfl rfl ?_
        refine WL.nil (WE.toU ?_)
        refine WU.e rfl (fun _ h => by have h := Ws.drop (L := [_]) (L' := _) h; have h := Ws.out 0 h; have h := Ws.out 3 h; have h := Ws.drops h (fun _ hm => List.mem_append_right [_] hm); exact h) ?_ WU.stop
        refine WL.appT ((p52, s52) : PX) 5 0 (.inl rfl) rfl el24 rfl rfl rfl rfl rfl rfl (by have := hok.len; omega) (by have := hok.len; omega) fun a54 c54 => ?_
        refine WL.nil (WE.toU ?_)
        refine WU.nil (fun _ h => by have h := Ws.drop (L := [_]) (L' := _) h; have h := Ws.out 0 h; have h := Ws.out 3 h; have h := Ws.drops h (fun _ hm => List.mem_append_right [_] hm); exact h) ?_
        refine WS.e rfl ?_
        refine WL.val (.inl rfl) rfl (yl_fa fo27_3 rfl) ?_
        refine WL.nil (WE.toS ?_)
        refine WS.e rfl ?_
        refine WL.store 2 (.inl rfl) rfl rfl rfl sz24 rfl rfl rfl ?_
        refine WL.nil (WE.toS ?_)
        refine WS.nil ?_
        refine WE.then_normal ?_
        refine WC.vjoin fun J52 j52a j52b j52f => ?_
        refine WC.region ?_
        refine WL.val (.inl rfl) rfl (yl_move rfl) ?_
        refine WL.front 1 rfl ?_
        refine WL.callw (ι := Bool × (Option Addr × Nat) × Tk) [_] _ (.inl rfl) rfl en52 rfl rfl (fun i => .bool i.1) (fun i => glassL gb i.2.1 i.2.2) (fun i => (i.1 = true → hasT [112, 117, 98] q52 = some i.2.2) ∧ (i.1 = false → hasT [112, 117, 98] q52 = none ∧ q52 = i.2.2) ∧ Sl rdTok 3 HT i.2.1.1 i.2.1.2 i.2.2) [HT] (by simp) (fun w hw => has_any gb HT r52 q52 [112, 117, 98] w hm52 hw) ?_
        intro ⟨b57, r57, q57⟩ ⟨h57t, h57f, hm57⟩
        have hp57 : pubP q52 = (b57, q57) := pub_of h57t h57f
        obtain ⟨ok57, le57⟩ : TOk q57 ∧ q57.length ≤ List.length (q52) := tPub ok52 h57t h57f
        refine WL.val (.inl rfl) rfl (yl_assign rfl) ?_
        refine WL.nil (WE.block_normal ?_)
        exact WE.again (⟨e.ps ++ [(p52, s52)], a54, c54, J52, b57, r57, q57⟩ : GM) (by have : q47.length + 1 = e.q.length := hasT_len hq47; have : q52.length < q47.length := proc_len ok47 hq52; show q57.length < e.q.length; omega) ⟨⟨by have : q47.length + 1 = e.q.length := hasT_len hq47; have : q52.length < q47.length := proc_len ok47 hq52; simp; omega, ok57⟩, hm57, ⟨j52f _ hf52 hfJ, PXs.snoc hPX j52b j52a hx52⟩, n, (show q57.length < n by have : q47.length + 1 = e.q.length := hasT_len hq47; have : q52.length < q47.length := proc_len ok47 hq52; omega), by rw [hC, procsL_more hq47 hq52 hp57]; simp [Function.comp_def]⟩ (sc rfl (sc rfl (sc rfl (sc rfl sn)))) (fun _ h => by
            have h := h.fronti 6 rfl
            have h := h.fronti 6 rfl
            have h := h.fronti 6 rfl
            have h := h.fronti 6 rfl
            have h := h.fronti 6 rfl
            have h := h.fronti 5 rfl
            have h := Ws.keep (L := [_, _, _, _, _, _]) h
            have h := Ws.drops h (Vs' := [J52, HT]) (by simp)
            exact h)
      ·
        obtain ⟨hn47, hl47⟩ := h47f hc2
        subst hl47
        obtain ⟨n, hn, hC⟩ := hC
        obtain ⟨n, rfl⟩ : ∃ k, n = k + 1 := ⟨n - 1, by omega⟩
        rw [procsL_end hn47] at hC
        simp at hC
        refine WC.exit (WE.then_exit (WE.then_exit (WE.block_hit (WE.then_normal (WC.seq ?_)))))
        refine WC.seq (WC.region ?_)
        refine WL.val (.inl rfl) rfl (yl_move rfl) ?_
        refine WL.nil (WE.then_normal ?_)
        refine WC.cond rfl (fun hc3 => ?_) (fun hc3 => ?_)
        ·
          have hpb : e.pub = true := hc3
          refine WC.region ?_
          refine WL.val (.inl rfl) rfl (yl_build zr75 pl75 rfl rfl) ?_
          refine WL.val (.inl rfl) rfl (yl_mki co75 rfl) ?_
          refine WL.panic (.inl rfl) rfl ?_
          refine WE.then_panic ?_
          refine WE.panics fun w' hw => ?_
          exact .inr ⟨r47, e.q, rfl, by rw [mod_use hq9 hq11 hq15]; simp only [w_main, hA, hp29, hB, hC, hpb, if_true, Option.bind_some, Option.map_some, Option.bind_none, Option.map_none], (by have h := hw; have h := Ws.keep (L := [_]) h; have h := Ws.drops h (Vs' := [HT]) (by simp); exact h)⟩
        ·
          have hpb : e.pub = false := hc3
          refine WC.skip (WE.then_normal (WC.seq (WC.region ?_)))
          refine WL.val (.inl rfl) rfl (yl_move rfl) ?_
          refine WL.bsliceF (.inl rfl) rfl el22 rfl rfl rfl rfl fun b62 => ?_
          refine WL.strview (T := 9) (m := 1) 0 [[109, 97, 105, 110]] rfl rfl (show 1 ≤ 1 by decide) (by decide) fun H62 hH62 => ?_
          refine WL.front 0 rfl ?_
          refine WL.callwx (ι := (Option Addr × Nat) × Tk) (κ := (Option Addr × Nat) × Tk) [_] _ (.inl rfl) rfl en50 rfl rfl (fun _ => .tuple #[]) (fun i => glassL gb i.1 i.2) (fun i => mustT [[109, 97, 105, 110]] e.q = some i.2 ∧ Sl rdTok 3 HT i.1.1 i.1.2 i.2) (fun _ => brk) (fun i => glassL gb i.1 i.2) (fun _ => mustT [[109, 97, 105, 110]] e.q = none) ([HT, H62]) (by simp) (fun w hw => (must_any gb HT r47 e.q H62 _ _ [[109, 97, 105, 110]] w hH62 hm47 hw).mono fun e w' h => by
              rcases h with ⟨r2, q, h1, h2, h3, h4⟩ | ⟨r2, q, h1, h2, h3⟩
              · exact .inl ⟨(r2, q), h1, ⟨h2, h3⟩, h4⟩
              · exact .inr ⟨(r2, q), h1, h2, h3⟩) ?_ ?_
          ·
            intro ⟨rp, qp⟩ hp
            rw [must1] at hp
            refine WE.then_panic ?_
            refine WE.panics fun w' hw => ?_
            exact .inr ⟨rp, qp, rfl, by rw [mod_use hq9 hq11 hq15]; simp only [w_main, hA, hp29, hB, hC, hpb, hp, Bool.false_eq_true, if_false, Option.bind_some, Option.map_some, Option.bind_none, Option.map_none], (by have h := hw; have h := Ws.keep (L := [_]) h; have h := Ws.drops h (Vs' := [HT]) (by simp); exact h)⟩
          intro ⟨r63, q63⟩ ⟨hq63, hm63⟩
          have ok63 := tMust hoke hq63
          rw [must1] at hq63
          refine WL.nil (WE.then_normal (WC.seq (WC.region ?_)))
          refine WL.val (.inl rfl) rfl (yl_move rfl) ?_
          refine WL.front 0 rfl ?_
          refine WL.callwdx (ι := ((List TStmt) × (Option Addr × Nat)) × (Option Addr × Nat) × Tk) (κ := (Option Addr × Nat) × Tk) [_] _ (.inl rfl) rfl en55 rfl rfl (fun i => .slice i.1.2.1 i.1.1.length i.1.2.2) (fun i => glassL gb i.2.1 i.2.2) (fun F i => blockP 6 q63 = some (i.1.1, i.2.2) ∧ Sl (RdS 7 6) 6 F i.1.2.1 i.1.2.2 i.1.1 ∧ Sl rdTok 3 HT i.2.1.1 i.2.1.2 i.2.2) (fun _ => brk) (fun i => glassL gb i.1 i.2) (fun _ => blockP 6 q63 = none) ([HT]) (by simp) (fun _ _ h => h) (fun w hw => (gblock_any HT 6 gb r63 q63 (1) w (by omega) ok63 hm63 hw).mono fun e w' h => by
              rcases h with ⟨x, s, r2, q, h1, h2, h3, h4, h5⟩ | ⟨r2, q, h1, h2, h3⟩
              · exact .inl ⟨((x, s), r2, q), h1, ⟨h2, h3, h4⟩, h5⟩
              · exact .inr ⟨(r2, q), h1, h2, h3⟩) ?_ ?_
          ·
            intro ⟨rp, qp⟩ hp
            refine WE.then_panic ?_
            refine WE.panics fun w' hw => ?_
            exact .inr ⟨rp, qp, rfl, by rw [mod_use hq9 hq11 hq15]; simp only [w_main, hA, hp29, hB, hC, hpb, hq63, hp, Bool.false_eq_true, if_false, Option.bind_some, Option.map_some, Option.bind_none, Option.map_none], (by have h := hw; have h := Ws.keep (L := [_]) h; have h := Ws.drops h (Vs' := [HT]) (by simp); exact h)⟩
          intro F65 ⟨⟨b_65, s65⟩, r65, q65⟩ hf65 ⟨hq65, hx65, hm65⟩
          have ok65 : TOk q65 := tBlock ok63 hq65
          refine WL.val (.inl rfl) rfl (yl_fa fo27_4 rfl) ?_
          refine WL.store 1 (.inl rfl) rfl rfl rfl sz25 rfl rfl rfl ?_
          refine WL.nil (WE.then_normal (WC.seq (WC.region ?_)))
          refine WL.val (.inl rfl) rfl (yl_move rfl) ?_
          refine WL.bsliceF (.inl rfl) rfl el22 rfl rfl rfl rfl fun b68 => ?_
          refine WL.strview (T := 9) (m := 1) 0 [[125]] rfl rfl (show 1 ≤ 1 by decide) (by decide) fun H68 hH68 => ?_
          refine WL.front 0 rfl ?_
          refine WL.callwx (ι := (Option Addr × Nat) × Tk) (κ := (Option Addr × Nat) × Tk) [_] _ (.inl rfl) rfl en50 rfl rfl (fun _ => .tuple #[]) (fun i => glassL gb i.1 i.2) (fun i => mustT [[125]] q65 = some i.2 ∧ Sl rdTok 3 HT i.1.1 i.1.2 i.2) (fun _ => brk) (fun i => glassL gb i.1 i.2) (fun _ => mustT [[125]] q65 = none) ([HT, H68]) (by simp) (fun w hw => (must_any gb HT r65 q65 H68 _ _ [[125]] w hH68 hm65 hw).mono fun e w' h => by
              rcases h with ⟨r2, q, h1, h2, h3, h4⟩ | ⟨r2, q, h1, h2, h3⟩
              · exact .inl ⟨(r2, q), h1, ⟨h2, h3⟩, h4⟩
              · exact .inr ⟨(r2, q), h1, h2, h3⟩) ?_ ?_
          ·
            intro ⟨rp, qp⟩ hp
            rw [must1] at hp
            refine WE.then_panic ?_
            refine WE.panics fun w' hw => ?_
            exact .inr ⟨rp, qp, rfl, by rw [mod_use hq9 hq11 hq15]; simp only [w_main, hA, hp29, hB, hC, hpb, hq63, hq65, hp, Bool.false_eq_true, if_false, Option.bind_some, Option.map_some, Option.bind_none, Option.map_none], (by have h := hw; have h := Ws.keep (L := [_]) h; have h := Ws.drops h (Vs' := [HT]) (by simp); exact h)⟩
          intro ⟨r69, q69⟩ ⟨hq69, hm69⟩
          have ok69 := tMust ok65 hq69
          rw [must1] at hq69
          refine WL.nil (WE.then_normal (WC.seq ?_))
          refine WC.oslN (rd := rdStr) 2 rfl (fun k hk => by simp [glassL, blk] at hk; subst hk; simp [outOf, glassL, blk, osl]) strC_len (fun _ _ _ _ h => h) fun KU fKU hKU => ?_
          refine WC.oslN (rd := rdDecl) 2 rfl (fun k hk => by simp [glassL, blk] at hk; subst hk; simp [outOf, glassL, blk, osl]) TDecl.cells_len (fun _ _ _ _ h => h) fun KD fKD hKD => ?_
          refine WC.oslN (rd := rdPX) 2 rfl (fun k hk => by simp [glassL, blk] at hk; subst hk; simp [outOf, glassL, blk, osl]) PX.cells_len (fun _ _ _ _ h => h) fun KP fKP hKP => ?_
          refine WC.region ?_
          refine WL.val (.inl rfl) rfl (yl_ldka 1 rfl rfl ag27 rfl) ?_
          refine WL.store 2 (.inl rfl) rfl rfl rfl sz27 rfl rfl rfl ?_
          refine WL.nil (WE.then_normal (WC.ret ?_))
          refine WE.retR (rs_1 rfl (rv_agg 2 rfl rfl ag27 rfl)) fun w' hw => ?_
          exact .inl ⟨⟨s11, g.us, v.ds, e.ps.map (·.1), b_65⟩, ⟨g.a, g.c, v.a, v.c, e.a, e.c, s65.1, s65.2⟩, r69, q69, by show Ending.returned (.agg #[st s11, .slice g.a g.us.length g.c, .slice v.a v.ds.length v.c, .slice e.a e.ps.length e.c, .slice s65.1 b_65.length s65.2]) = _; simp [modV], by rw [mod_use hq9 hq11 hq15]; simp only [w_main, hA, hp29, hB, hC, hpb, hq63, hq65, hq69, Bool.false_eq_true, if_false, Option.bind_some, Option.map_some, Option.bind_none, Option.map_none], ⟨slStr_mv hKU (nv_vs hw (by simp) fKU), slDecl_mv hKD (nv_vs hw (by simp) fKD), slP_of hKP (nv_vs hw (by simp) fKP) (nv_vs hw (by simp) hfJ) hPX, slS_mv hx65 (nv_vs hw (by simp) hf65)⟩, hm69, Ws.drops (Ws.keep (L := [_]) hw) (fun _ hm => List.mem_append_right [_, _, _, _, _, _, _] hm)⟩
    ·
      obtain ⟨n, hn, hB⟩ := hB
      obtain ⟨n, rfl⟩ : ∃ k, n = k + 1 := ⟨n - 1, by omega⟩
      obtain ⟨x33, hd33⟩ : ∃ x, o33 = some x := by
        cases o33 with
        | none => simp at hc1
        | some x => exact ⟨x, rfl⟩
      subst hd33
      have hl33 : q33.length < v.q.length := decl_len hokv hq33
      refine WC.skip (WE.then_normal (WC.seq (WC.region ?_)))
      refine WL.val (.inl rfl) rfl (yl_fa fo27_2 rfl) ?_
      refine WL.val (.inl rfl) rfl (yl_ldk 2 rfl rfl rfl na23) ?_
      refine WL.val (.inl rfl) rfl (yl_ldka 0 rfl rfl ag53 rfl) ?_
      refine WL.bsliceF (.inl rfl) rfl el23 rfl rfl rfl rfl fun b41 => ?_
      refine WL.reblk 0 (.cells (TDecl.cells x33).toArray 53 (0, 0)) rfl rfl ?_
      refine WL.appT (x33 : TDecl) 5 0 (.inl rfl) rfl el23 rfl rfl rfl rfl rfl rfl (by have := hok.len; omega) (by have := hok.len; omega) fun a42 c42 => ?_
      refine WL.val (.inl rfl) rfl (yl_fa fo27_2 rfl) ?_
      refine WL.store 3 (.inl rfl) rfl rfl rfl sz23 rfl rfl rfl ?_
      refine WL.nil (WE.then_normal (WC.region ?_))
      refine WL.val (.inl rfl) rfl (yl_move rfl) ?_
      refine WL.front 2 rfl ?_
      refine WL.callw (ι := Bool × (Option Addr × Nat) × Tk) [_] _ (.inl rfl) rfl en52 rfl rfl (fun i => .bool i.1) (fun i => glassL gb i.2.1 i.2.2) (fun i => (i.1 = true → hasT [112, 117, 98] q33 = some i.2.2) ∧ (i.1 = false → hasT [112, 117, 98] q33 = none ∧ q33 = i.2.2) ∧ Sl rdTok 3 HT i.2.1.1 i.2.1.2 i.2.2) [HT] (by simp) (fun w hw => has_any gb HT r33 q33 [112, 117, 98] w hm33 hw) ?_
      intro ⟨b45, r45, q45⟩ ⟨h45t, h45f, hm45⟩
      have hp45 : pubP q33 = (b45, q45) := pub_of h45t h45f
      obtain ⟨ok45, le45⟩ : TOk q45 ∧ q45.length ≤ List.length (q33) := tPub ok33 h45t h45f
      refine WL.val (.inl rfl) rfl (yl_assign rfl) ?_
      refine WL.nil (WE.block_normal ?_)
      exact WE.again (⟨v.ds ++ [x33], a42, c42, b45, r45, q45⟩ : GD) (by show q45.length < v.q.length; omega) ⟨⟨by simp; omega, ok45⟩, hm45, n, (show q45.length < n by omega), by rw [hB, declsL_more hq33 hp45]; simp [Function.comp_def]⟩ (sc rfl (sc rfl (sc rfl (sc rfl sn)))) (fun _ h => by
          have h := h.fronti 7 rfl
          have h := h.fronti 7 rfl
          have h := h.fronti 7 rfl
          have h := h.fronti 7 rfl
          have h := h.fronti 7 rfl
          have h := h.fronti 5 rfl
          have h := Ws.keep (L := [_, _, _, _, _, _]) h
          have h := Ws.drops h (Vs' := [v0, HT]) (by simp)
          exact h)
end Go.Proofs.YtjfldjidhkfnbaaGreatDoor
end
