/- The law TreeChecks, where what comes in is of bulk at most 1048576: the call returns true and leaves the module as it reads; the library's listed variables hold what the program's text lays. -/
import Derived.Deep.DeepHandedRow
import Derived.Deep.DeepWitnessRowRef
import Derived.LaidMore
import Derived.Lib.LaidTab
import Derived.OpenShut
import Derived.ProofKit
import Derived.SevenTiedAt
import Derived.Stop.Joined
import Derived.Stop.LaidErr
import Derived.Test.YtjfldjidhkfnbaaGreatDoorCards
import Derived.Test.YtjfldjidhkfnbaaGreatDoorTie
import Derived.Test.YtjfldjidhkfnbaaGreatDoorC4
section
namespace Go.Proofs.YtjfldjidhkfnbaaGreatDoor
open Go.Bw
set_option linter.unusedVariables false
set_option linter.unusedSimpArgs false
theorem parse_err {s : Tx} (h : ¬ (lexR s).2 = 0) : parseM s = (noMod, (lexR s).2) := by rw [parseM, if_pos h]
theorem parse_no {s : Tx} (h : (lexR s).2 = 0) (h1 : modP (lexR s).1 = none) : parseM s = (noMod, 1) := by rw [parseM, if_neg (by simp [h]), h1]
theorem parse_more {s : Tx} {m : TMod} {q : Tk} (h : (lexR s).2 = 0) (h1 : modP (lexR s).1 = some (m, q)) (h2 : 0 < q.length ∨ ¬ checkM m = 0) : parseM s = (noMod, 1) := by
  rw [parseM, if_neg (by simp [h]), h1]
  cases q with
  | cons t r => rfl
  | nil =>
    simp only
    rw [if_neg]
    rcases h2 with h2 | h2
    · simp at h2
    · exact h2
theorem parse_yes {s : Tx} {m : TMod} {q : Tk} (h : (lexR s).2 = 0) (h1 : modP (lexR s).1 = some (m, q)) (h2 : q.length = 0) (h3 : checkM m = 0) : parseM s = (m, 0) := by
  rw [parseM, if_neg (by simp [h]), h1]
  obtain rfl : q = [] := List.eq_nil_of_length_eq_zero h2
  simp only
  rw [if_pos h3]
theorem lexR_tok {s : Tx} (h : (lexR s).2 = 0) : TOk (lexR s).1 := ⟨lexR_ok h, (checkT_zero (lex_checks h)).2⟩
def noAt : MAt := ⟨none, 0, none, 0, none, 0, none, 0⟩
theorem noMod_rd (N : View) : RdM 7 6 N noAt noMod := ⟨Sl.nil, Sl.nil, Sl.nil, Sl.nil⟩
theorem rdM_mv {H N : View} {ke ks : Nat} {s : MAt} {m : TMod} (h : RdM ke ks H s m) (hv : VLe H N) : RdM ke ks N s m := ⟨slStr_mv h.uses hv, slDecl_mv h.decls hv, h.procs.imp fun b o x hx => RdP_mono hv (Nat.le_refl _) (Nat.le_refl _) b o x hx, h.main.imp fun b o x hx => RdS_mono hv (Nat.le_refl _) (Nat.le_refl _) b o x hx⟩
theorem uif20 : Tryz.prog.underlying 20 = some (.interface (Tryz.prog.methodsAt 20)) := by kernel_rfl
theorem sz29 : sizeP Tryz.prog 29 = some 1 := by kernel_rfl
theorem zr29 : zeroOf Tryz.prog 29 = some (.int .i64 0) := by kernel_rfl
theorem en29 : Enters Tryz.prog 29 := enters_of Tryz.func29 (by kernel_rfl) rfl
theorem na29 : nonAgg Tryz.prog 29 = true := by kernel_rfl
theorem pl73 : placesP Tryz.prog 73 = some [(0, 1)] := by kernel_rfl
theorem zr73 : zeroOf Tryz.prog 73 = some (.agg #[.slice none 0 0]) := by kernel_rfl
theorem en31 : Enters Tryz.prog 31 := enters_of Tryz.func31 (by kernel_rfl) rfl
theorem en30 : Enters Tryz.prog 30 := enters_of Tryz.func30 (by kernel_rfl) rfl
theorem parse1_ret (b2 b3 : Nat) (m0 : Array Value) (hm0 : m0.size = 5) (e0 : Int) (w : World) (hw : Ws w (List.flatMap Asr.ids [blk b2 (.cells m0 27 (0, 0)), blk b3 (.cells #[.int .i64 e0] 29 (0, 0))]) [blk b2 (.cells m0 27 (0, 0)), blk b3 (.cells #[.int .i64 e0] 29 (0, 0))] [] w) :
    CallsD Tryz.prog 30 #[.pointer (some ⟨b2, 0, none⟩), .pointer (some ⟨b3, 0, none⟩)] (.returning) w fun e u2 w' => u2 = .returning ∧ (e = .returned (.tuple #[]) ∧ Ws w (List.flatMap Asr.ids [blk b2 (.cells m0 27 (0, 0)), blk b3 (.cells #[.int .i64 e0] 29 (0, 0))]) [blk b2 (.cells m0 27 (0, 0)), blk b3 (.cells #[.int .i64 e0] 29 (0, 0))] [] w') := by
  refine closD Tryz.func30 rfl 5 rfl rfl rfl rfl rfl (fun _ => rfl) (.inl ⟨rfl, rfl, rfl⟩) ?_
  refine WL.world (W' := Ws w (List.flatMap Asr.ids [blk b2 (.cells m0 27 (0, 0)), blk b3 (.cells #[.int .i64 e0] 29 (0, 0))]) [blk b2 (.cells m0 27 (0, 0)), blk b3 (.cells #[.int .i64 e0] 29 (0, 0))] []) (fun _ e => by subst e; exact hw) ?_
  refine WL.val (.inl rfl) rfl (yl_nein uif20 rfl) ?_
  refine WL.nil (WE.then_normal ?_)
  refine WC.condf rfl ?_
  refine WC.skip ?_
  refine WE.end0 rfl fun w' hw => ?_
  exact ⟨rfl, hw⟩
theorem parse1_pan (b2 b3 : Nat) (m0 : List Value) (hm0 : m0.length = 5) (e0 : Int) (w : World) (hw : Ws w (List.flatMap Asr.ids [blk b2 (.cells m0.toArray 27 (0, 0)), blk b3 (.cells #[.int .i64 e0] 29 (0, 0))]) [blk b2 (.cells m0.toArray 27 (0, 0)), blk b3 (.cells #[.int .i64 e0] 29 (0, 0))] [] w) :
    CallsD Tryz.prog 30 #[.pointer (some ⟨b2, 0, none⟩), .pointer (some ⟨b3, 0, none⟩)] (.panicking brk) w fun e u2 w' => u2 = .panicking [⟨.iface 75 (.agg #[]), true, false⟩] ∧ (e = .returned (.tuple #[]) ∧ Ws w (List.flatMap Asr.ids [blk b2 (.cells m0.toArray 27 (0, 0)), blk b3 (.cells #[.int .i64 e0] 29 (0, 0))]) [blk b2 (.cells (rowM [] none 0 0 none 0 0 none 0 0 none 0 0).toArray 27 (0, 0)), blk b3 (.cells #[.int .i64 1] 29 (0, 0))] [] w') := by
  refine closD Tryz.func30 rfl 5 rfl rfl rfl rfl rfl (fun _ => rfl) (.inr ⟨_, rfl, rfl, rfl⟩) ?_
  refine WL.world (W' := Ws w (List.flatMap Asr.ids [blk b2 (.cells m0.toArray 27 (0, 0)), blk b3 (.cells #[.int .i64 e0] 29 (0, 0))]) [blk b2 (.cells m0.toArray 27 (0, 0)), blk b3 (.cells #[.int .i64 e0] 29 (0, 0))] []) (fun _ e => by subst e; exact hw) ?_
  refine WL.val (.inl rfl) rfl (yl_neih uif20 rfl) ?_
  refine WL.nil (WE.then_normal ?_)
  refine WC.condt rfl ?_
  refine WC.region ?_
  refine WL.val (.inl rfl) rfl (yl_build zr27 pl27 rfl rfl) ?_
  refine WL.storeAs 0 (.cells (rowM [] none 0 0 none 0 0 none 0 0 none 0 0).toArray 27 (0, 0)) (.inl rfl) rfl rfl rfl sz27 rfl rfl (by simp [stOk, hm0]) (by simp [setIn, vcells, rowM, hm0, List.drop_eq_nil_of_le]) ?_
  refine WL.store 1 (.inl rfl) rfl rfl rfl sz29 rfl rfl rfl ?_
  refine WL.nil ?_
  refine WE.end0 rfl fun w' hw => ?_
  exact ⟨rfl, hw⟩
theorem treeParse_any (G : View) (s : Tx) (w : World) (hG : Le G w) (hz : Laid G) :
    Calls Tryz.prog 11 #[st s] w fun e w' => ∃ r : MAt, e = .returned (.tuple #[.agg (modV (parseM s).1 r).toArray, .int .i64 (parseM s).2]) ∧ Ext w w' ∧ RdM 7 6 (nv w w') r (parseM s).1 := by
  refine enterD Tryz.func11 rfl 35 rfl rfl ?_
  refine WC.world (W' := Ws w [] [] [G]) (fun _ e => by subst e; exact Ws.init (by simp [hG])) ?_
  refine WC.seq (WC.region ?_)
  refine WL.alloc (.inl rfl) rfl zr27 fun b2 => ?_
  refine WL.reblk 0 (.cells (rowM [] none 0 0 none 0 0 none 0 0 none 0 0).toArray 27 (0, 0)) rfl rfl ?_
  refine WL.alloc (.inl rfl) rfl zr29 fun b3 => ?_
  refine WL.reblk 0 (.cells #[.int .i64 0] 29 (0, 0)) rfl rfl ?_
  refine WL.nil (WE.then_normal (WC.seq (WC.region ?_)))
  refine WL.val (.inl rfl) rfl (yl_move rfl) ?_
  refine WL.calld (.inl rfl) rfl en29 rfl (fun r : Option Addr × Nat => .tuple #[.slice r.1 (lexR s).1.length r.2, .int .i64 (lexR s).2]) (fun F r => Sl rdTok 3 F r.1 r.2 (lexR s).1) (fun w hw => lex_any G s w (hw.vs _ (by simp)) hz) ?_
  intro F8 r8 hf8 h8
  refine WL.val (.inl rfl) rfl (yl_move rfl) ?_
  refine WL.val (.inl rfl) rfl (yl_extract rfl rfl) ?_
  refine WL.val (.inl rfl) rfl (yl_extract rfl rfl) ?_
  refine WL.val (.inl rfl) rfl (yl_assign rfl) ?_
  refine WL.store 0 (.inl rfl) rfl rfl rfl sz29 rfl rfl rfl ?_
  refine WL.nil (WE.then_normal (WC.seq (WC.seq (WC.region ?_))))
  refine WL.val (.inl rfl) rfl (yl_ldk 0 rfl rfl rfl na29) ?_
  refine WL.val (.inl rfl) rfl (yl_ne rfl rfl) ?_
  refine WL.nil (WE.then_normal ?_)
  refine WC.cond rfl (fun hc0 => ?_) (fun hc0 => ?_)
  ·
    have he : ¬ (lexR s).2 = 0 := by simpa using hc0
    refine WC.seq ?_
    refine WC.drawU (noRes [.cell 2 27, .cell 3 29]) [1] [3] (.q false 0 (.q true 1 (.e 2 .nil .stop))) mixed (by kernel_rfl) (fun _ _ _ _ _ hd h => bodyD_put (fn := Tryz.f11) [.cell 2 27, .cell 3 29] rfl hd h) ?_
    refine WU.q rfl (.inl rfl) rfl (fun _ h => by have h := Ws.out 1 h; exact h) (yl_build zr27 pl27 rfl rfl) ?_
    refine WU.q rfl (.inl rfl) rfl (fun _ h => by have h := Ws.out 1 h; exact h) (yl_ldk 0 rfl rfl rfl na29) ?_
    refine WU.e rfl (fun _ h => by have h := Ws.out 1 h; exact h) ?_ WU.stop
    refine WL.store 1 (.inl rfl) rfl rfl rfl sz27 rfl rfl rfl ?_
    refine WL.nil (WE.toU ?_)
    refine WU.nil (fun _ h => by have h := Ws.out 1 h; exact h) ?_
    refine WS.e rfl ?_
    refine WL.store 0 (.inl rfl) rfl rfl rfl sz29 rfl rfl rfl ?_
    refine WL.nil (WE.toS ?_)
    refine WS.nil ?_
    refine WE.then_normal (WC.ret (WE.then_ret ?_))
    refine WE.retD0 (rs_2 rfl (rv_agg 1 rfl rfl ag27 rfl) (rv_one 0 rfl rfl rfl na29)) fun w' hw => ?_
    rw [parse_err he]
    exact ⟨noAt, rfl, hw.fr, noMod_rd _⟩
  ·
    have he : (lexR s).2 = 0 := by simpa using hc0
    refine WC.reblk 0 (.cells #[.int .i64 0] 29 (0, 0)) rfl (by show Obj.cells #[.int .i64 (lexR s).2] _ _ = _; rw [he]) ?_
    refine WC.skip (WE.then_normal (WC.seq (WC.region ?_)))
    refine WL.val (.inl rfl) rfl (yl_func rfl) ?_
    refine WL.defer (.inl rfl) rfl ?_
    refine WL.nil (WE.then_normal (WC.seq (WC.region ?_)))
    refine WL.val (.inl rfl) rfl (yl_move rfl) ?_
    refine WL.val (.inl rfl) rfl (yl_build zr73 pl73 rfl rfl) ?_
    refine WL.box (.inl rfl) rfl rfl fun b18 => ?_
    refine WL.val (.inl rfl) rfl (yl_assign rfl) ?_
    refine WL.nil (WE.then_normal (WC.seq (WC.region ?_)))
    refine WL.val (.inl rfl) rfl (yl_move rfl) ?_
    refine WL.front 0 rfl ?_
    refine WL.callwdx (ι := (TMod × MAt) × (Option Addr × Nat) × Tk) (κ := (Option Addr × Nat) × Tk) [_] _ (.inl rfl) rfl en31 rfl rfl (fun i => .agg (modV i.1.1 i.1.2).toArray) (fun i => glassL b18 i.2.1 i.2.2) (fun F i => modP (lexR s).1 = some (i.1.1, i.2.2) ∧ RdM 7 6 F i.1.2 i.1.1 ∧ Sl rdTok 3 F8 i.2.1.1 i.2.1.2 i.2.2) (fun _ => brk) (fun i => glassL b18 i.1 i.2) (fun _ => modP (lexR s).1 = none) ([F8]) (by simp) (fun _ _ h => h) (fun w hw => (gmodule_any b18 F8 r8 (lexR s).1 w (lexR_tok he) h8 hw).mono fun e w' h => by
        rcases h with ⟨x, s, r2, q, h1, h2, h3, h4, h5⟩ | ⟨r2, q, h1, h2, h3⟩
        · exact .inl ⟨((x, s), r2, q), h1, ⟨h2, h3, h4⟩, h5⟩
        · exact .inr ⟨(r2, q), h1, h2, h3⟩) ?_ ?_
    ·
      intro ⟨rp, qp⟩ hp
      refine WE.then_panic ?_
      refine WE.front 1 rfl ?_
      refine WE.front 2 rfl ?_
      refine WE.panD en30 (closW [_, _] _ [blk b2 (.cells (rowM [] none 0 0 none 0 0 none 0 0 none 0 0).toArray 27 (0, 0)), blk b3 (.cells #[.int .i64 1] 29 (0, 0))] rfl (fun w hw => parse1_pan b2 b3 (rowM [] none 0 0 none 0 0 none 0 0 none 0 0) rfl 0 w hw)) (rs_2 rfl (rv_agg 0 rfl rfl ag27 rfl) (rv_one 1 rfl rfl rfl na29)) fun w' hw => ?_
      rw [parse_no he hp]
      exact ⟨noAt, rfl, hw.fr, noMod_rd _⟩
    intro F20 ⟨⟨m20, s20⟩, r20, q20⟩ hf20 ⟨hq20, hx20, hm20⟩
    have hwt : wM m20 ≤ 73728 := by
      have h1 : wM m20 + 18 * q20.length ≤ 18 * (lexR s).1.length := modP_w hq20
      have := (lexR_tok he).len
      omega
    refine WL.store 2 (.inl rfl) rfl rfl rfl sz27 rfl rfl rfl ?_
    refine WL.nil (WE.then_normal (WC.seq (WC.seq ?_)))
    refine WC.reblk 2 (.cells (modV m20 s20).toArray 27 (0, 0)) rfl rfl ?_
    refine WC.region ?_
    refine WL.val (.inl rfl) rfl (yl_move rfl) ?_
    refine WL.val (.inl rfl) rfl (yl_nil rfl) ?_
    refine WL.val (.inl rfl) rfl (yl_fa fo73_0 rfl) ?_
    refine WL.val (.inl rfl) rfl (yl_ldk 0 rfl rfl rfl na61) ?_
    refine WL.val (.inl rfl) rfl (yl_len es61 rfl) ?_
    refine WL.val (.inl rfl) rfl (yl_gt rfl rfl) ?_
    refine WL.val (.inl rfl) rfl (yl_move rfl) ?_
    apply WL.or 3 rfl rfl rfl rfl (.inl rfl) rfl rfl rfl rfl rfl
    ·
      intro hg0
      refine WL.val (.inr ⟨_, _, _, rfl, rfl, rfl⟩) rfl (yl_ldka 2 rfl rfl ag27 rfl) ?_
      refine WL.callp (.inr ⟨_, _, _, rfl, rfl, rfl⟩) rfl en7 rfl (fun w hw => treeCheck_any F20 7 6 s20 m20 w (hw.vs _ (by simp)) hx20 (by omega)) ?_
      refine WL.val (.inr ⟨_, _, _, rfl, rfl, rfl⟩) rfl (yl_ne rfl rfl) ?_
      exact Got.intro 3 rfl rfl rfl
    refine WL.nil (WE.then_normal ?_)
    refine WC.cond rfl (fun hc1 => ?_) (fun hc1 => ?_)
    ·
      have hno : 0 < q20.length ∨ ¬ checkM m20 = 0 := by simpa using hc1
      refine WC.region ?_
      refine WL.val (.inl rfl) rfl (yl_build zr75 pl75 rfl rfl) ?_
      refine WL.val (.inl rfl) rfl (yl_mki co75 rfl) ?_
      refine WL.panic (.inl rfl) rfl ?_
      refine WE.then_panic ?_
      refine WE.front 1 rfl ?_
      refine WE.front 2 rfl ?_
      refine WE.panD en30 (closW [_, _] _ [blk b2 (.cells (rowM [] none 0 0 none 0 0 none 0 0 none 0 0).toArray 27 (0, 0)), blk b3 (.cells #[.int .i64 1] 29 (0, 0))] rfl (fun w hw => parse1_pan b2 b3 (modV m20 s20) rfl 0 w hw)) (rs_2 rfl (rv_agg 0 rfl rfl ag27 rfl) (rv_one 1 rfl rfl rfl na29)) fun w' hw => ?_
      rw [parse_more he hq20 hno]
      exact ⟨noAt, rfl, hw.fr, noMod_rd _⟩
    ·
      have hy : ¬ 0 < q20.length ∧ checkM m20 = 0 := by simpa using hc1
      refine WC.skip (WE.then_normal (WC.seq (WC.region ?_)))
      refine WL.val (.inl rfl) rfl (yl_ldka 2 rfl rfl ag27 rfl) ?_
      refine WL.store 2 (.inl rfl) rfl rfl rfl sz27 rfl rfl rfl ?_
      refine WL.store 1 (.inl rfl) rfl rfl rfl sz29 rfl rfl rfl ?_
      refine WL.nil (WE.then_normal (WC.ret ?_))
      refine WE.front 1 rfl ?_
      refine WE.front 2 rfl ?_
      refine WE.retD en30 (closW [_, _] _ [blk b2 (.cells (modV m20 s20).toArray 27 (0, 0)), blk b3 (.cells #[.int .i64 0] 29 (0, 0))] rfl (fun w hw => parse1_ret b2 b3 (modV m20 s20).toArray rfl 0 w hw)) (rs_2 rfl (rv_agg 0 rfl rfl ag27 rfl) (rv_one 1 rfl rfl rfl na29)) fun w' hw => ?_
      rw [parse_yes he hq20 (by have := hy.1; show q20.length = 0; omega) hy.2]
      exact ⟨s20, rfl, hw.fr, rdM_mv hx20 (nv_vs hw (by simp) hf20)⟩
end Go.Proofs.YtjfldjidhkfnbaaGreatDoor
end
section
namespace Go.Proofs.YtjfldjidhkfnbaaGreatDoor
open Go.Bw
set_option linter.unusedVariables false
set_option linter.unusedSimpArgs false
theorem lookE_eq (x : TExpr) (lv d : Nat) : lookE x lv d = if 6 < d then lv == 2 else lvE lv x.op x.n x.mod x.nm x.args.length || lookEs x.args lv (d + 1) := by cases x; rw [lookE]; rfl
theorem lookS_eq (x : TStmt) (lv d : Nat) : lookS x lv d = ((lvS lv x.op x.mod x.nm x.args.length x.body.length x.other.length || lookEs x.args lv 1)
      || (((inner x.op || decide (0 < x.body.length)) && lookB x.body lv (d + 1)) || (decide (0 < x.other.length) && lookB x.other lv (d + 1)))) := by cases x; rw [lookS]; rfl
theorem lookEs_any (lv d : Nat) : ∀ l : List TExpr, lookEs l lv d = l.any fun x => lookE x lv d
  | [] => rfl
  | x :: r => by rw [lookEs, lookEs_any lv d r, List.any_cons]
theorem lookSs_any (lv d : Nat) : ∀ l : List TStmt, lookSs l lv d = l.any fun x => lookS x lv d
  | [] => rfl
  | x :: r => by rw [lookSs, lookSs_any lv d r, List.any_cons]
theorem words_no {s : Tx} (h : ∀ j, j < wordsL.length → wordsL[j]? ≠ some s) : wordsL.contains s = false := by
  rw [Bool.eq_false_iff]
  intro hc
  rw [List.contains_iff_mem] at hc
  obtain ⟨j, hj⟩ := List.getElem?_of_mem hc
  exact h j (List.getElem?_eq_some_iff.1 hj).1 hj
theorem en69 : Enters Tryz.prog 69 := enters_of Tryz.func69 (by kernel_rfl) rfl
theorem en39 : Enters Tryz.prog 39 := enters_of Tryz.func39 (by kernel_rfl) rfl
theorem words_any (w : World) :
    Calls Tryz.prog 69 #[] w fun e w' => ∃ r : Option Addr × Nat, e = .returned (.slice r.1 wordsL.length r.2) ∧ Ext w w' ∧ Sl rdStr 1 (nv w w') r.1 r.2 wordsL := by
  refine enter Tryz.func69 rfl 2 rfl rfl ?_
  refine WC.world (W' := Ws w [] [] []) (fun _ e => by subst e; exact Ws.init (by simp)) ?_
  refine WC.seq (WC.region ?_)
  refine WL.val (.inl rfl) rfl (yl_assign rfl) ?_
  refine WL.nil (WE.then_normal (WC.seq (WC.region ?_)))
  refine WL.bsliceF (.inl rfl) rfl el22 rfl rfl rfl rfl fun b1 => ?_
  refine WL.val (.inl rfl) rfl (yl_assign rfl) ?_
  refine WL.nil (WE.then_normal (WC.ret ?_))
  refine WE.retR (rs_1 rfl (rv_tmp rfl)) fun w' hw => ?_
  exact ⟨(some ⟨b1, 0, none⟩, 15), rfl, hw.fr, ⟨show wordsL.length ≤ 15 by decide, show 15 ≤ 9223372036854775807 by decide, by simp, fun j x hj => ⟨b1, 0, rfl, fun k v hk => hw.nvc 0 rfl (by
      have : k < 1 := (List.getElem?_eq_some_iff.1 hk).1
      show (wordsL.flatMap strC)[0 + j * 1 + k]? = some v
      rw [Nat.zero_add, flat_get strC_len hj this]; exact hk)⟩⟩⟩
theorem isNAME_any (s : Tx) (w : World) :
    Calls Tryz.prog 39 #[st s] w fun e w' => e = .returned (.bool (nameT s)) ∧ Ext w w' := by
  refine enter Tryz.func39 rfl 20 rfl rfl ?_
  refine WC.world (W' := Ws w [] [] []) (fun _ e => by subst e; exact Ws.init (by simp)) ?_
  refine WC.seq (WC.region ?_)
  refine WL.val (.inl rfl) rfl (yl_assign rfl) ?_
  refine WL.nil (WE.then_normal (WC.seq (WC.region ?_)))
  refine WL.calld (.inl rfl) rfl en69 rfl (fun r : Option Addr × Nat => .slice r.1 wordsL.length r.2) (fun H r => Sl rdStr 1 H r.1 r.2 wordsL) (fun w hw => words_any w) ?_
  intro F5 r5 hf5 h5
  have hwl : wordsL.length = 15 := rfl
  refine WL.val (.inl rfl) rfl (yl_assign rfl) ?_
  refine WL.nil (WE.then_normal (WC.seq (WC.seq (WC.region ?_))))
  refine WL.val (.inl rfl) rfl (yl_assign rfl) ?_
  refine WL.nil (WE.then_normal (WC.block ?_))
  refine WC.loopW (ι := Nat) (fun i => [(4, .int .i64 (i : Int))]) [(0, _), (3, _)] (fun i => i ≤ wordsL.length ∧ ∀ j, j < i → wordsL[j]? ≠ some s) (fun i => wordsL.length - i) 0 ⟨Nat.zero_le _, by simp⟩ (sc rfl (sc rfl (sc rfl sn))) ?_
  intro i ⟨hi, hall⟩
  refine WC.seq (WC.seq (WC.region ?_))
  refine WL.val (.inl rfl) rfl (yl_move rfl) ?_
  refine WL.val (.inl rfl) rfl (yl_move rfl) ?_
  refine WL.val (.inl rfl) rfl (yl_len es22 rfl) ?_
  refine WL.val (.inl rfl) rfl (yl_lt rfl rfl) ?_
  refine WL.nil (WE.then_normal ?_)
  refine WC.cond rfl (fun hc0 => ?_) (fun hc0 => ?_)
  ·
    have hlt : i < wordsL.length := by simpa using hc0
    obtain ⟨x, hxi⟩ : ∃ x, wordsL[i]? = some x := ⟨_, List.getElem?_eq_getElem hlt⟩
    obtain ⟨pbx, pox, ha, hrow⟩ := h5.elt i x hxi
    have hrow : RdC F5 pbx (pox + i * 1) (strC x) := hrow
    refine WC.skip (WE.then_normal (WC.seq (WC.block (WC.seq (WC.region ?_)))))
    refine WL.val (.inl rfl) rfl (yl_move rfl) ?_
    refine WL.val (.inl rfl) rfl (yl_move rfl) ?_
    refine WL.val (.inl rfl) rfl (yl_iao es22 rfl rfl (by assumption) (by omega)) ?_
    refine WL.val (.inl rfl) rfl (yl_ld 0 na9 rfl rfl (hrow 0 _ rfl)) ?_
    refine WL.val (.inl rfl) rfl (yl_move rfl) ?_
    refine WL.val (.inl rfl) rfl (yl_eqs rfl rfl) ?_
    refine WL.nil (WE.then_normal ?_)
    refine WC.cond rfl (fun hc1 => ?_) (fun hc1 => ?_)
    ·
      have heq : x = s := by simpa using hc1
      refine WC.seq (WC.region ?_)
      refine WL.val (.inl rfl) rfl (yl_assign rfl) ?_
      refine WL.nil (WE.then_normal (WC.ret (WE.block_ret (WE.then_ret (WE.then_ret ?_)))))
      refine WE.block_ret (WE.then_ret ?_)
      refine WE.ret1 rfl rfl fun w' hw => ?_
      refine ⟨?_, hw.fr⟩
      rw [nameT, List.contains_iff_mem.2 (by rw [← heq]; exact List.mem_of_getElem? hxi)]
      simp
    ·
      have hne : ¬ x = s := by simpa using hc1
      refine WC.skip (WE.block_normal (WE.then_normal (WC.region ?_)))
      refine WL.val (.inl rfl) rfl (yl_move rfl) ?_
      refine WL.val (.inl rfl) rfl (yl_inc rfl rfl rfl (by omega)) ?_
      refine WL.val (.inl rfl) rfl (yl_assign rfl) ?_
      refine WL.nil ?_
      exact WE.again (i + 1) (by omega) ⟨by omega, fun j hj => by rcases Nat.lt_succ_iff_lt_or_eq.1 hj with h | rfl; exact hall j h; rw [hxi]; intro e; injection e with e; exact hne e⟩ (sc rfl (sc rfl (sc rfl sn))) (fun _ h => h)
  ·
    have hge : ¬ i < wordsL.length := by simpa using hc0
    refine WC.exit (WE.then_exit (WE.then_exit (WE.block_hit (WE.then_normal (WC.seq ?_)))))
    refine WC.region ?_
    refine WL.val (.inl rfl) rfl (yl_move rfl) ?_
    refine WL.callp (.inl rfl) rfl en57 rfl (fun w hw => isName_any s w) ?_
    refine WL.val (.inl rfl) rfl (yl_assign rfl) ?_
    refine WL.nil (WE.then_normal (WC.ret ?_))
    refine WE.ret1 rfl rfl fun w' hw => ?_
    refine ⟨?_, hw.fr⟩
    rw [nameT, words_no fun j hj => hall j (by omega)]
    simp
theorem refFine_any (mod nm : Tx) (w : World) :
    Calls Tryz.prog 89 #[st mod, st nm] w fun e w' => e = .returned (.bool (refFineT mod nm)) ∧ Ext w w' := by
  refine enter Tryz.func89 rfl 15 rfl rfl ?_
  refine WC.world (W' := Ws w [] [] []) (fun _ e => by subst e; exact Ws.init (by simp)) ?_
  refine WC.seq (WC.region ?_)
  refine WL.val (.inl rfl) rfl (yl_assign rfl) ?_
  refine WL.nil (WE.then_normal (WC.seq (WC.region ?_)))
  refine WL.val (.inl rfl) rfl (yl_move rfl) ?_
  refine WL.val (.inl rfl) rfl (yl_eqs rfl rfl) ?_
  refine WL.val (.inl rfl) rfl (yl_move rfl) ?_
  apply WL.or 2 rfl rfl rfl rfl (.inl rfl) rfl rfl rfl rfl rfl
  ·
    intro hg0
    refine WL.val (.inr ⟨_, _, _, rfl, rfl, rfl⟩) rfl (yl_move rfl) ?_
    refine WL.callp (.inr ⟨_, _, _, rfl, rfl, rfl⟩) rfl en39 rfl (fun w hw => isNAME_any _ w) ?_
    exact Got.intro 2 rfl rfl rfl
  refine WL.val (.inl rfl) rfl (yl_move rfl) ?_
  apply WL.and 2 rfl rfl rfl rfl (.inl rfl) rfl rfl rfl rfl rfl
  ·
    intro hg1
    refine WL.val (.inr ⟨_, _, _, rfl, rfl, rfl⟩) rfl (yl_move rfl) ?_
    refine WL.callp (.inr ⟨_, _, _, rfl, rfl, rfl⟩) rfl en39 rfl (fun w hw => isNAME_any _ w) ?_
    exact Got.intro 2 rfl rfl rfl
  refine WL.val (.inl rfl) rfl (yl_assign rfl) ?_
  refine WL.nil (WE.then_normal (WC.ret ?_))
  refine WE.ret1 rfl rfl fun w' hw => ?_
  exact ⟨rfl, hw.fr⟩
theorem exprArgs_any (op : Int) (w : World) :
    Calls Tryz.prog 110 #[.int .i64 op] w fun e w' => e = .returned (.int .i64 (exprArgsT op)) ∧ Ext w w' := by
  refine enter Tryz.func110 rfl 13 rfl rfl ?_
  refine WC.world (W' := Ws w [] [] []) (fun _ e => by subst e; exact Ws.init (by simp)) ?_
  refine WC.seq (WC.region ?_)
  refine WL.val (.inl rfl) rfl (yl_assign rfl) ?_
  refine WL.nil (WE.then_normal (WC.seq (WC.seq (WC.region ?_))))
  refine WL.val (.inl rfl) rfl (yl_move rfl) ?_
  refine WL.nil (WE.then_normal (WC.block (WC.seq (WC.seq (WC.region ?_)))))
  refine WL.val (.inl rfl) rfl (yl_eq rfl rfl) ?_
  refine WL.val (.inl rfl) rfl (yl_assign rfl) ?_
  refine WL.nil (WE.then_normal ?_)
  refine WC.cond rfl (fun hc0 => ?_) (fun hc0 => ?_)
  ·
    refine WC.skip (WE.then_normal ?_)
    refine WC.cond rfl (fun hc2 => ?_) (fun hc2 => ?_)
    ·
      refine WC.seq (WC.region ?_)
      refine WL.val (.inl rfl) rfl (yl_assign rfl) ?_
      refine WL.nil (WE.then_normal (WC.ret (WE.block_ret (WE.then_ret ?_))))
      refine WE.ret1 rfl rfl fun w' hw => ?_
      simp at hc0 hc2
      exact ⟨by unfold exprArgsT; (repeat' split) <;> first | rfl | (exfalso; omega), hw.fr⟩
    ·
      refine WC.seq (WC.seq (WC.region ?_))
      refine WL.val (.inl rfl) rfl (yl_eq rfl rfl) ?_
      refine WL.val (.inl rfl) rfl (yl_assign rfl) ?_
      refine WL.nil (WE.then_normal ?_)
      refine WC.cond rfl (fun hc3 => ?_) (fun hc3 => ?_)
      ·
        refine WC.skip (WE.then_normal ?_)
        refine WC.cond rfl (fun hc4 => ?_) (fun hc4 => ?_)
        ·
          refine WC.seq (WC.region ?_)
          refine WL.val (.inl rfl) rfl (yl_assign rfl) ?_
          refine WL.nil (WE.then_normal (WC.ret (WE.block_ret (WE.then_ret ?_))))
          refine WE.ret1 rfl rfl fun w' hw => ?_
          simp at hc0 hc2 hc3 hc4
          exact ⟨by unfold exprArgsT; (repeat' split) <;> first | rfl | (exfalso; omega), hw.fr⟩
        ·
          refine WC.seq (WC.region ?_)
          refine WL.val (.inl rfl) rfl (yl_eq rfl rfl) ?_
          refine WL.val (.inl rfl) rfl (yl_assign rfl) ?_
          refine WL.nil (WE.then_normal ?_)
          refine WC.cond rfl (fun hc5 => ?_) (fun hc5 => ?_)
          ·
            refine WC.seq (WC.region ?_)
            refine WL.val (.inl rfl) rfl (yl_assign rfl) ?_
            refine WL.nil (WE.then_normal (WC.ret (WE.block_ret (WE.then_ret ?_))))
            refine WE.ret1 rfl rfl fun w' hw => ?_
            simp at hc0 hc2 hc3 hc4 hc5
            exact ⟨by unfold exprArgsT; (repeat' split) <;> first | rfl | (exfalso; omega), hw.fr⟩
          ·
            refine WC.skip (WE.block_normal (WE.then_normal (WC.seq (WC.region ?_))))
            refine WL.val (.inl rfl) rfl (yl_assign rfl) ?_
            refine WL.nil (WE.then_normal (WC.ret ?_))
            refine WE.ret1 rfl rfl fun w' hw => ?_
            simp at hc0 hc2 hc3 hc4 hc5
            exact ⟨by unfold exprArgsT; (repeat' split) <;> first | rfl | (exfalso; omega), hw.fr⟩
      ·
        refine WC.region ?_
        refine WL.val (.inl rfl) rfl (yl_eq rfl rfl) ?_
        refine WL.val (.inl rfl) rfl (yl_assign rfl) ?_
        refine WL.nil (WE.then_normal ?_)
        refine WC.cond rfl (fun hc4 => ?_) (fun hc4 => ?_)
        ·
          refine WC.seq (WC.region ?_)
          refine WL.val (.inl rfl) rfl (yl_assign rfl) ?_
          refine WL.nil (WE.then_normal (WC.ret (WE.block_ret (WE.then_ret ?_))))
          refine WE.ret1 rfl rfl fun w' hw => ?_
          simp at hc0 hc2 hc3 hc4
          exact ⟨by unfold exprArgsT; (repeat' split) <;> first | rfl | (exfalso; omega), hw.fr⟩
        ·
          refine WC.seq (WC.region ?_)
          refine WL.val (.inl rfl) rfl (yl_eq rfl rfl) ?_
          refine WL.val (.inl rfl) rfl (yl_assign rfl) ?_
          refine WL.nil (WE.then_normal ?_)
          refine WC.cond rfl (fun hc5 => ?_) (fun hc5 => ?_)
          ·
            refine WC.seq (WC.region ?_)
            refine WL.val (.inl rfl) rfl (yl_assign rfl) ?_
            refine WL.nil (WE.then_normal (WC.ret (WE.block_ret (WE.then_ret ?_))))
            refine WE.ret1 rfl rfl fun w' hw => ?_
            simp at hc0 hc2 hc3 hc4 hc5
            exact ⟨by unfold exprArgsT; (repeat' split) <;> first | rfl | (exfalso; omega), hw.fr⟩
          ·
            refine WC.skip (WE.block_normal (WE.then_normal (WC.seq (WC.region ?_))))
            refine WL.val (.inl rfl) rfl (yl_assign rfl) ?_
            refine WL.nil (WE.then_normal (WC.ret ?_))
            refine WE.ret1 rfl rfl fun w' hw => ?_
            simp at hc0 hc2 hc3 hc4 hc5
            exact ⟨by unfold exprArgsT; (repeat' split) <;> first | rfl | (exfalso; omega), hw.fr⟩
  ·
    refine WC.seq (WC.region ?_)
    refine WL.val (.inl rfl) rfl (yl_eq rfl rfl) ?_
    refine WL.val (.inl rfl) rfl (yl_assign rfl) ?_
    refine WL.nil (WE.then_normal ?_)
    refine WC.cond rfl (fun hc1 => ?_) (fun hc1 => ?_)
    ·
      refine WC.skip (WE.then_normal ?_)
      refine WC.cond rfl (fun hc2 => ?_) (fun hc2 => ?_)
      ·
        refine WC.seq (WC.region ?_)
        refine WL.val (.inl rfl) rfl (yl_assign rfl) ?_
        refine WL.nil (WE.then_normal (WC.ret (WE.block_ret (WE.then_ret ?_))))
        refine WE.ret1 rfl rfl fun w' hw => ?_
        simp at hc0 hc1 hc2
        exact ⟨by unfold exprArgsT; (repeat' split) <;> first | rfl | (exfalso; omega), hw.fr⟩
      ·
        refine WC.seq (WC.seq (WC.region ?_))
        refine WL.val (.inl rfl) rfl (yl_eq rfl rfl) ?_
        refine WL.val (.inl rfl) rfl (yl_assign rfl) ?_
        refine WL.nil (WE.then_normal ?_)
        refine WC.cond rfl (fun hc3 => ?_) (fun hc3 => ?_)
        ·
          refine WC.skip (WE.then_normal ?_)
          refine WC.cond rfl (fun hc4 => ?_) (fun hc4 => ?_)
          ·
            refine WC.seq (WC.region ?_)
            refine WL.val (.inl rfl) rfl (yl_assign rfl) ?_
            refine WL.nil (WE.then_normal (WC.ret (WE.block_ret (WE.then_ret ?_))))
            refine WE.ret1 rfl rfl fun w' hw => ?_
            simp at hc0 hc1 hc2 hc3 hc4
            exact ⟨by unfold exprArgsT; (repeat' split) <;> first | rfl | (exfalso; omega), hw.fr⟩
          ·
            refine WC.seq (WC.region ?_)
            refine WL.val (.inl rfl) rfl (yl_eq rfl rfl) ?_
            refine WL.val (.inl rfl) rfl (yl_assign rfl) ?_
            refine WL.nil (WE.then_normal ?_)
            refine WC.cond rfl (fun hc5 => ?_) (fun hc5 => ?_)
            ·
              refine WC.seq (WC.region ?_)
              refine WL.val (.inl rfl) rfl (yl_assign rfl) ?_
              refine WL.nil (WE.then_normal (WC.ret (WE.block_ret (WE.then_ret ?_))))
              refine WE.ret1 rfl rfl fun w' hw => ?_
              simp at hc0 hc1 hc2 hc3 hc4 hc5
              exact ⟨by unfold exprArgsT; (repeat' split) <;> first | rfl | (exfalso; omega), hw.fr⟩
            ·
              refine WC.skip (WE.block_normal (WE.then_normal (WC.seq (WC.region ?_))))
              refine WL.val (.inl rfl) rfl (yl_assign rfl) ?_
              refine WL.nil (WE.then_normal (WC.ret ?_))
              refine WE.ret1 rfl rfl fun w' hw => ?_
              simp at hc0 hc1 hc2 hc3 hc4 hc5
              exact ⟨by unfold exprArgsT; (repeat' split) <;> first | rfl | (exfalso; omega), hw.fr⟩
        ·
          refine WC.region ?_
          refine WL.val (.inl rfl) rfl (yl_eq rfl rfl) ?_
          refine WL.val (.inl rfl) rfl (yl_assign rfl) ?_
          refine WL.nil (WE.then_normal ?_)
          refine WC.cond rfl (fun hc4 => ?_) (fun hc4 => ?_)
          ·
            refine WC.seq (WC.region ?_)
            refine WL.val (.inl rfl) rfl (yl_assign rfl) ?_
            refine WL.nil (WE.then_normal (WC.ret (WE.block_ret (WE.then_ret ?_))))
            refine WE.ret1 rfl rfl fun w' hw => ?_
            simp at hc0 hc1 hc2 hc3 hc4
            exact ⟨by unfold exprArgsT; (repeat' split) <;> first | rfl | (exfalso; omega), hw.fr⟩
          ·
            refine WC.seq (WC.region ?_)
            refine WL.val (.inl rfl) rfl (yl_eq rfl rfl) ?_
            refine WL.val (.inl rfl) rfl (yl_assign rfl) ?_
            refine WL.nil (WE.then_normal ?_)
            refine WC.cond rfl (fun hc5 => ?_) (fun hc5 => ?_)
            ·
              refine WC.seq (WC.region ?_)
              refine WL.val (.inl rfl) rfl (yl_assign rfl) ?_
              refine WL.nil (WE.then_normal (WC.ret (WE.block_ret (WE.then_ret ?_))))
              refine WE.ret1 rfl rfl fun w' hw => ?_
              simp at hc0 hc1 hc2 hc3 hc4 hc5
              exact ⟨by unfold exprArgsT; (repeat' split) <;> first | rfl | (exfalso; omega), hw.fr⟩
            ·
              refine WC.skip (WE.block_normal (WE.then_normal (WC.seq (WC.region ?_))))
              refine WL.val (.inl rfl) rfl (yl_assign rfl) ?_
              refine WL.nil (WE.then_normal (WC.ret ?_))
              refine WE.ret1 rfl rfl fun w' hw => ?_
              simp at hc0 hc1 hc2 hc3 hc4 hc5
              exact ⟨by unfold exprArgsT; (repeat' split) <;> first | rfl | (exfalso; omega), hw.fr⟩
    ·
      refine WC.region ?_
      refine WL.val (.inl rfl) rfl (yl_eq rfl rfl) ?_
      refine WL.val (.inl rfl) rfl (yl_assign rfl) ?_
      refine WL.nil (WE.then_normal ?_)
      refine WC.cond rfl (fun hc2 => ?_) (fun hc2 => ?_)
      ·
        refine WC.seq (WC.region ?_)
        refine WL.val (.inl rfl) rfl (yl_assign rfl) ?_
        refine WL.nil (WE.then_normal (WC.ret (WE.block_ret (WE.then_ret ?_))))
        refine WE.ret1 rfl rfl fun w' hw => ?_
        simp at hc0 hc1 hc2
        exact ⟨by unfold exprArgsT; (repeat' split) <;> first | rfl | (exfalso; omega), hw.fr⟩
      ·
        refine WC.seq (WC.seq (WC.region ?_))
        refine WL.val (.inl rfl) rfl (yl_eq rfl rfl) ?_
        refine WL.val (.inl rfl) rfl (yl_assign rfl) ?_
        refine WL.nil (WE.then_normal ?_)
        refine WC.cond rfl (fun hc3 => ?_) (fun hc3 => ?_)
        ·
          refine WC.skip (WE.then_normal ?_)
          refine WC.cond rfl (fun hc4 => ?_) (fun hc4 => ?_)
          ·
            refine WC.seq (WC.region ?_)
            refine WL.val (.inl rfl) rfl (yl_assign rfl) ?_
            refine WL.nil (WE.then_normal (WC.ret (WE.block_ret (WE.then_ret ?_))))
            refine WE.ret1 rfl rfl fun w' hw => ?_
            simp at hc0 hc1 hc2 hc3 hc4
            exact ⟨by unfold exprArgsT; (repeat' split) <;> first | rfl | (exfalso; omega), hw.fr⟩
          ·
            refine WC.seq (WC.region ?_)
            refine WL.val (.inl rfl) rfl (yl_eq rfl rfl) ?_
            refine WL.val (.inl rfl) rfl (yl_assign rfl) ?_
            refine WL.nil (WE.then_normal ?_)
            refine WC.cond rfl (fun hc5 => ?_) (fun hc5 => ?_)
            ·
              refine WC.seq (WC.region ?_)
              refine WL.val (.inl rfl) rfl (yl_assign rfl) ?_
              refine WL.nil (WE.then_normal (WC.ret (WE.block_ret (WE.then_ret ?_))))
              refine WE.ret1 rfl rfl fun w' hw => ?_
              simp at hc0 hc1 hc2 hc3 hc4 hc5
              exact ⟨by unfold exprArgsT; (repeat' split) <;> first | rfl | (exfalso; omega), hw.fr⟩
            ·
              refine WC.skip (WE.block_normal (WE.then_normal (WC.seq (WC.region ?_))))
              refine WL.val (.inl rfl) rfl (yl_assign rfl) ?_
              refine WL.nil (WE.then_normal (WC.ret ?_))
              refine WE.ret1 rfl rfl fun w' hw => ?_
              simp at hc0 hc1 hc2 hc3 hc4 hc5
              exact ⟨by unfold exprArgsT; (repeat' split) <;> first | rfl | (exfalso; omega), hw.fr⟩
        ·
          refine WC.region ?_
          refine WL.val (.inl rfl) rfl (yl_eq rfl rfl) ?_
          refine WL.val (.inl rfl) rfl (yl_assign rfl) ?_
          refine WL.nil (WE.then_normal ?_)
          refine WC.cond rfl (fun hc4 => ?_) (fun hc4 => ?_)
          ·
            refine WC.seq (WC.region ?_)
            refine WL.val (.inl rfl) rfl (yl_assign rfl) ?_
            refine WL.nil (WE.then_normal (WC.ret (WE.block_ret (WE.then_ret ?_))))
            refine WE.ret1 rfl rfl fun w' hw => ?_
            simp at hc0 hc1 hc2 hc3 hc4
            exact ⟨by unfold exprArgsT; (repeat' split) <;> first | rfl | (exfalso; omega), hw.fr⟩
          ·
            refine WC.seq (WC.region ?_)
            refine WL.val (.inl rfl) rfl (yl_eq rfl rfl) ?_
            refine WL.val (.inl rfl) rfl (yl_assign rfl) ?_
            refine WL.nil (WE.then_normal ?_)
            refine WC.cond rfl (fun hc5 => ?_) (fun hc5 => ?_)
            ·
              refine WC.seq (WC.region ?_)
              refine WL.val (.inl rfl) rfl (yl_assign rfl) ?_
              refine WL.nil (WE.then_normal (WC.ret (WE.block_ret (WE.then_ret ?_))))
              refine WE.ret1 rfl rfl fun w' hw => ?_
              simp at hc0 hc1 hc2 hc3 hc4 hc5
              exact ⟨by unfold exprArgsT; (repeat' split) <;> first | rfl | (exfalso; omega), hw.fr⟩
            ·
              refine WC.skip (WE.block_normal (WE.then_normal (WC.seq (WC.region ?_))))
              refine WL.val (.inl rfl) rfl (yl_assign rfl) ?_
              refine WL.nil (WE.then_normal (WC.ret ?_))
              refine WE.ret1 rfl rfl fun w' hw => ?_
              simp at hc0 hc1 hc2 hc3 hc4 hc5
              exact ⟨by unfold exprArgsT; (repeat' split) <;> first | rfl | (exfalso; omega), hw.fr⟩
theorem stmtArgs_any (op : Int) (w : World) :
    Calls Tryz.prog 90 #[.int .i64 op] w fun e w' => e = .returned (.int .i64 (stmtArgsT op)) ∧ Ext w w' := by
  refine enter Tryz.func90 rfl 8 rfl rfl ?_
  refine WC.world (W' := Ws w [] [] []) (fun _ e => by subst e; exact Ws.init (by simp)) ?_
  refine WC.seq (WC.region ?_)
  refine WL.val (.inl rfl) rfl (yl_assign rfl) ?_
  refine WL.nil (WE.then_normal (WC.seq (WC.seq (WC.region ?_))))
  refine WL.val (.inl rfl) rfl (yl_move rfl) ?_
  refine WL.nil (WE.then_normal (WC.block (WC.seq (WC.region ?_))))
  refine WL.val (.inl rfl) rfl (yl_eq rfl rfl) ?_
  refine WL.val (.inl rfl) rfl (yl_assign rfl) ?_
  refine WL.nil (WE.then_normal ?_)
  refine WC.cond rfl (fun hc0 => ?_) (fun hc0 => ?_)
  ·
    refine WC.seq (WC.region ?_)
    refine WL.val (.inl rfl) rfl (yl_assign rfl) ?_
    refine WL.nil (WE.then_normal (WC.ret (WE.block_ret (WE.then_ret ?_))))
    refine WE.ret1 rfl rfl fun w' hw => ?_
    simp at hc0
    exact ⟨by unfold stmtArgsT; (repeat' split) <;> first | rfl | (exfalso; omega), hw.fr⟩
  ·
    refine WC.seq (WC.region ?_)
    refine WL.val (.inl rfl) rfl (yl_eq rfl rfl) ?_
    refine WL.val (.inl rfl) rfl (yl_assign rfl) ?_
    refine WL.nil (WE.then_normal ?_)
    refine WC.cond rfl (fun hc1 => ?_) (fun hc1 => ?_)
    ·
      refine WC.seq (WC.region ?_)
      refine WL.val (.inl rfl) rfl (yl_assign rfl) ?_
      refine WL.nil (WE.then_normal (WC.ret (WE.block_ret (WE.then_ret ?_))))
      refine WE.ret1 rfl rfl fun w' hw => ?_
      simp at hc0 hc1
      exact ⟨by unfold stmtArgsT; (repeat' split) <;> first | rfl | (exfalso; omega), hw.fr⟩
    ·
      refine WC.skip (WE.block_normal (WE.then_normal (WC.seq (WC.region ?_))))
      refine WL.val (.inl rfl) rfl (yl_assign rfl) ?_
      refine WL.nil (WE.then_normal (WC.ret ?_))
      refine WE.ret1 rfl rfl fun w' hw => ?_
      simp at hc0 hc1
      exact ⟨by unfold stmtArgsT; (repeat' split) <;> first | rfl | (exfalso; omega), hw.fr⟩
theorem exprRef_any (op : Int) (w : World) :
    Calls Tryz.prog 109 #[.int .i64 op] w fun e w' => e = .returned (.bool (within_ op 3 5)) ∧ Ext w w' := by
  refine enter Tryz.func109 rfl 5 rfl rfl ?_
  refine WC.world (W' := Ws w [] [] []) (fun _ e => by subst e; exact Ws.init (by simp)) ?_
  refine WC.seq (WC.region ?_)
  refine WL.val (.inl rfl) rfl (yl_assign rfl) ?_
  refine WL.nil (WE.then_normal (WC.seq (WC.region ?_)))
  refine WL.val (.inl rfl) rfl (yl_move rfl) ?_
  refine WL.callp (.inl rfl) rfl en40 rfl (fun w hw => within_any _ _ _ w) ?_
  refine WL.val (.inl rfl) rfl (yl_assign rfl) ?_
  refine WL.nil (WE.then_normal (WC.ret ?_))
  refine WE.ret1 rfl rfl fun w' hw => ?_
  exact ⟨rfl, hw.fr⟩
theorem stmtRef_any (op : Int) (w : World) :
    Calls Tryz.prog 88 #[.int .i64 op] w fun e w' => e = .returned (.bool (within_ op 1 3)) ∧ Ext w w' := by
  refine enter Tryz.func88 rfl 5 rfl rfl ?_
  refine WC.world (W' := Ws w [] [] []) (fun _ e => by subst e; exact Ws.init (by simp)) ?_
  refine WC.seq (WC.region ?_)
  refine WL.val (.inl rfl) rfl (yl_assign rfl) ?_
  refine WL.nil (WE.then_normal (WC.seq (WC.region ?_)))
  refine WL.val (.inl rfl) rfl (yl_move rfl) ?_
  refine WL.callp (.inl rfl) rfl en40 rfl (fun w hw => within_any _ _ _ w) ?_
  refine WL.val (.inl rfl) rfl (yl_assign rfl) ?_
  refine WL.nil (WE.then_normal (WC.ret ?_))
  refine WE.ret1 rfl rfl fun w' hw => ?_
  exact ⟨rfl, hw.fr⟩
end Go.Proofs.YtjfldjidhkfnbaaGreatDoor
end
section
namespace Go.Proofs.YtjfldjidhkfnbaaGreatDoor
open Go.Bw
set_option linter.unusedVariables false
set_option linter.unusedSimpArgs false
theorem lv_eq (lv : Nat) (k : Nat) : ((lv : Int) == (k : Int)) = (lv == k) := by rw [Bool.eq_iff_iff]; simp; omega
theorem any_at {α : Type} {p : α → Bool} {l : List α} {i : Nat} {x : α} (h : l[i]? = some x) (hp : p x = true) : l.any p = true := any_true h hp
theorem en91 : Enters Tryz.prog 91 := enters_of Tryz.func91 (by kernel_rfl) rfl
theorem en109 : Enters Tryz.prog 109 := enters_of Tryz.func109 (by kernel_rfl) rfl
theorem en89 : Enters Tryz.prog 89 := enters_of Tryz.func89 (by kernel_rfl) rfl
theorem en110 : Enters Tryz.prog 110 := enters_of Tryz.func110 (by kernel_rfl) rfl
theorem exprLook_any (H : View) (k : Nat) (x : TExpr) (a : Option Addr) (n lv d : Nat) (w : World) (hH : Le H w) (hlv : 1 ≤ lv ∧ lv ≤ 3) (hd0 : d ≤ 7) (hm : Sl (RdE k) 5 H a n x.args) :
    Calls Tryz.prog 91 #[.agg #[.int .i64 x.op, .int .i64 x.n, st x.mod, st x.nm, .slice a x.args.length n], .int .i64 (lv : Int), .int .i64 (d : Int)] w fun e w' => e = .returned (.bool (lookE x lv d)) ∧ Ext w w' := by
  induction k using Nat.strongRecOn generalizing x a n d w
  rename_i k ih
  have hcap := hm.cap
  have hmax := hm.max
  refine enter Tryz.func91 rfl 106 rfl rfl ?_
  refine WC.world (W' := Ws w [] [] [H]) (fun _ e => by subst e; exact Ws.init (by simp [hH])) ?_
  refine WC.seq (WC.region ?_)
  refine WL.box (.inl rfl) rfl rfl fun b3 => ?_
  refine WL.val (.inl rfl) rfl (yl_assign rfl) ?_
  refine WL.nil (WE.then_normal (WC.seq (WC.seq (WC.region ?_))))
  refine WL.val (.inl rfl) rfl (yl_move rfl) ?_
  refine WL.val (.inl rfl) rfl (yl_gt rfl rfl) ?_
  refine WL.nil (WE.then_normal ?_)
  refine WC.cond rfl (fun hc0 => ?_) (fun hc0 => ?_)
  ·
    have hd : 6 < d := by simp at hc0; omega
    refine WC.seq (WC.region ?_)
    refine WL.val (.inl rfl) rfl (yl_move rfl) ?_
    refine WL.val (.inl rfl) rfl (yl_eq rfl rfl) ?_
    refine WL.val (.inl rfl) rfl (yl_assign rfl) ?_
    refine WL.nil (WE.then_normal (WC.ret (WE.then_ret ?_)))
    refine WE.ret1 rfl rfl fun w' hw => ?_
    exact ⟨by rw [lookE_eq, if_pos hd, ← lv_eq]; rfl, hw.fr⟩
  ·
    have hd : ¬ 6 < d := by simp at hc0; omega
    have hE : lookE x lv d = (lvE lv x.op x.n x.mod x.nm x.args.length || lookEs x.args lv (d + 1)) := by rw [lookE_eq, if_neg hd]
    refine WC.skip (WE.then_normal (WC.seq (WC.seq (WC.region ?_))))
    refine WL.val (.inl rfl) rfl (yl_move rfl) ?_
    refine WL.nil (WE.then_normal (WC.block (WC.seq (WC.region ?_))))
    refine WL.val (.inl rfl) rfl (yl_eq rfl rfl) ?_
    refine WL.val (.inl rfl) rfl (yl_assign rfl) ?_
    refine WL.nil (WE.then_normal ?_)
    refine WC.cond rfl (fun hc1 => ?_) (fun hc1 => ?_)
    ·
      have hl : lv = 1 := by simp at hc1; omega
      subst hl
      refine WC.seq (WC.region ?_)
      refine WL.val (.inl rfl) rfl (yl_fa fo81_0 rfl) ?_
      refine WL.val (.inl rfl) rfl (yl_ldk 0 rfl rfl rfl na3) ?_
      refine WL.callp (.inl rfl) rfl en40 rfl (fun w hw => within_any _ _ _ w) ?_
      refine WL.val (.inl rfl) rfl (yl_not rfl) ?_
      refine WL.nil (WE.then_normal ?_)
      refine WC.cond rfl (fun hc2 => ?_) (fun hc2 => ?_)
      ·
        have hy : lvE 1 x.op x.n x.mod x.nm x.args.length = true := hc2
        refine WC.seq (WC.region ?_)
        refine WL.val (.inl rfl) rfl (yl_assign rfl) ?_
        refine WL.nil (WE.then_normal (WC.ret (WE.block_ret (WE.then_ret ?_))))
        refine WE.ret1 rfl rfl fun w' hw => ?_
        exact ⟨by rw [hE, hy]; rfl, hw.fr⟩
      ·
        have hno : lvE 1 x.op x.n x.mod x.nm x.args.length = false := hc2
        refine WC.skip (WE.block_normal (WE.then_normal (WC.seq (WC.seq (WC.region ?_)))))
        refine WL.val (.inl rfl) rfl (yl_assign rfl) ?_
        refine WL.nil (WE.then_normal (WC.block ?_))
        refine WC.loopW (ι := Nat) (fun i => [(7, .int .i64 (i : Int))]) [(1, _), (2, _), (3, _)] (fun i => i ≤ x.args.length ∧ ∀ j y, j < i → x.args[j]? = some y → lookE y 1 (d + 1) = false) (fun i => x.args.length - i) 0 ⟨Nat.zero_le _, by simp⟩ (sc rfl (sc rfl (sc rfl (sc rfl sn)))) ?_
        intro i ⟨hi, hall⟩
        refine WC.seq (WC.seq (WC.region ?_))
        refine WL.val (.inl rfl) rfl (yl_move rfl) ?_
        refine WL.val (.inl rfl) rfl (yl_fa fo81_4 rfl) ?_
        refine WL.val (.inl rfl) rfl (yl_ldk 0 rfl rfl rfl na41) ?_
        refine WL.val (.inl rfl) rfl (yl_len es41 rfl) ?_
        refine WL.val (.inl rfl) rfl (yl_lt rfl rfl) ?_
        refine WL.nil (WE.then_normal ?_)
        refine WC.cond rfl (fun hc7 => ?_) (fun hc7 => ?_)
        ·
          have hlt : i < x.args.length := by simpa using hc7
          obtain ⟨y, hyi⟩ : ∃ q, x.args[i]? = some q := ⟨_, List.getElem?_eq_getElem hlt⟩
          obtain ⟨pby, poy, hay, hry⟩ := hm.elt i y hyi
          obtain ⟨k2, rfl⟩ : ∃ k2, k = k2 + 1 := by
            cases k with
            | zero => exact hry.elim
            | succ k2 => exact ⟨k2, rfl⟩
          obtain ⟨ya, yn, hrow, hsub⟩ := hry
          refine WC.skip (WE.then_normal (WC.seq (WC.block (WC.seq (WC.region ?_)))))
          refine WL.val (.inl rfl) rfl (yl_fa fo81_4 rfl) ?_
          refine WL.val (.inl rfl) rfl (yl_ldk 0 rfl rfl rfl na41) ?_
          refine WL.val (.inl rfl) rfl (yl_move rfl) ?_
          refine WL.val (.inl rfl) rfl (yl_iao es41 rfl rfl hay (by omega)) ?_
          refine WL.val (.inl rfl) rfl (yl_lda 0 ag81 rfl rfl rfl (hrow)) ?_
          refine WL.val (.inl rfl) rfl (yl_move rfl) ?_
          refine WL.val (.inl rfl) rfl (yl_move rfl) ?_
          refine WL.val (.inl rfl) rfl (yl_inc rfl rfl rfl (by omega)) ?_
          refine WL.callp (.inl rfl) rfl en91 rfl (fun w hw => by
              have := ih k2 (by omega) y ya yn (d + 1) w (hw.vs _ (by simp)) (by omega) hsub
              exact this) ?_
          refine WL.nil (WE.then_normal ?_)
          refine WC.cond rfl (fun hc8 => ?_) (fun hc8 => ?_)
          ·
            refine WC.seq (WC.region ?_)
            refine WL.val (.inl rfl) rfl (yl_assign rfl) ?_
            refine WL.nil (WE.then_normal (WC.ret (WE.block_ret (WE.then_ret (WE.then_ret ?_)))))
            refine WE.block_ret (WE.then_ret ?_)
            refine WE.ret1 rfl rfl fun w' hw => ?_
            exact ⟨by rw [hE, lookEs_any, any_at hyi hc8, Bool.or_true], hw.fr⟩
          ·
            refine WC.skip (WE.block_normal (WE.then_normal (WC.region ?_)))
            refine WL.val (.inl rfl) rfl (yl_move rfl) ?_
            refine WL.val (.inl rfl) rfl (yl_inc rfl rfl rfl (by omega)) ?_
            refine WL.val (.inl rfl) rfl (yl_assign rfl) ?_
            refine WL.nil ?_
            exact WE.again (i + 1) (by omega) ⟨by omega, fun j z hj hz => by rcases Nat.lt_succ_iff_lt_or_eq.1 hj with h | rfl; exact hall j z h hz; rw [hyi] at hz; injection hz with hz; subst hz; exact hc8⟩ (sc rfl (sc rfl (sc rfl (sc rfl sn)))) (fun _ h => h)
        ·
          have hge : ¬ i < x.args.length := by simpa using hc7
          have hnn : lookEs x.args 1 (d + 1) = false := by rw [lookEs_any]; exact any_false fun j y hj => hall j y (by have := (List.getElem?_eq_some_iff.1 hj).1; omega) hj
          refine WC.exit (WE.then_exit (WE.then_exit (WE.block_hit (WE.then_normal (WC.seq ?_)))))
          refine WC.region ?_
          refine WL.val (.inl rfl) rfl (yl_assign rfl) ?_
          refine WL.nil (WE.then_normal (WC.ret ?_))
          refine WE.ret1 rfl rfl fun w' hw => ?_
          exact ⟨by rw [hE, hno, hnn]; rfl, hw.fr⟩
    ·
      have hl1 : ¬ lv = 1 := by simp at hc1; omega
      refine WC.seq (WC.region ?_)
      refine WL.val (.inl rfl) rfl (yl_eq rfl rfl) ?_
      refine WL.val (.inl rfl) rfl (yl_assign rfl) ?_
      refine WL.nil (WE.then_normal ?_)
      refine WC.cond rfl (fun hc3 => ?_) (fun hc3 => ?_)
      ·
        have hl : lv = 2 := by simp at hc3; omega
        subst hl
        refine WC.seq (WC.region ?_)
        refine WL.val (.inl rfl) rfl (yl_fa fo81_4 rfl) ?_
        refine WL.val (.inl rfl) rfl (yl_ldk 0 rfl rfl rfl na41) ?_
        refine WL.val (.inl rfl) rfl (yl_len es41 rfl) ?_
        refine WL.val (.inl rfl) rfl (yl_gt rfl rfl) ?_
        rw [int_lt3]
        refine WL.nil (WE.then_normal ?_)
        refine WC.cond rfl (fun hc4 => ?_) (fun hc4 => ?_)
        ·
          have hy : lvE 2 x.op x.n x.mod x.nm x.args.length = true := hc4
          refine WC.seq (WC.region ?_)
          refine WL.val (.inl rfl) rfl (yl_assign rfl) ?_
          refine WL.nil (WE.then_normal (WC.ret (WE.block_ret (WE.then_ret ?_))))
          refine WE.ret1 rfl rfl fun w' hw => ?_
          exact ⟨by rw [hE, hy]; rfl, hw.fr⟩
        ·
          have hno : lvE 2 x.op x.n x.mod x.nm x.args.length = false := hc4
          refine WC.skip (WE.block_normal (WE.then_normal (WC.seq (WC.seq (WC.region ?_)))))
          refine WL.val (.inl rfl) rfl (yl_assign rfl) ?_
          refine WL.nil (WE.then_normal (WC.block ?_))
          refine WC.loopW (ι := Nat) (fun i => [(7, .int .i64 (i : Int))]) [(1, _), (2, _), (3, _)] (fun i => i ≤ x.args.length ∧ ∀ j y, j < i → x.args[j]? = some y → lookE y 2 (d + 1) = false) (fun i => x.args.length - i) 0 ⟨Nat.zero_le _, by simp⟩ (sc rfl (sc rfl (sc rfl (sc rfl sn)))) ?_
          intro i ⟨hi, hall⟩
          refine WC.seq (WC.seq (WC.region ?_))
          refine WL.val (.inl rfl) rfl (yl_move rfl) ?_
          refine WL.val (.inl rfl) rfl (yl_fa fo81_4 rfl) ?_
          refine WL.val (.inl rfl) rfl (yl_ldk 0 rfl rfl rfl na41) ?_
          refine WL.val (.inl rfl) rfl (yl_len es41 rfl) ?_
          refine WL.val (.inl rfl) rfl (yl_lt rfl rfl) ?_
          refine WL.nil (WE.then_normal ?_)
          refine WC.cond rfl (fun hc7 => ?_) (fun hc7 => ?_)
          ·
            have hlt : i < x.args.length := by simpa using hc7
            obtain ⟨y, hyi⟩ : ∃ q, x.args[i]? = some q := ⟨_, List.getElem?_eq_getElem hlt⟩
            obtain ⟨pby, poy, hay, hry⟩ := hm.elt i y hyi
            obtain ⟨k2, rfl⟩ : ∃ k2, k = k2 + 1 := by
              cases k with
              | zero => exact hry.elim
              | succ k2 => exact ⟨k2, rfl⟩
            obtain ⟨ya, yn, hrow, hsub⟩ := hry
            refine WC.skip (WE.then_normal (WC.seq (WC.block (WC.seq (WC.region ?_)))))
            refine WL.val (.inl rfl) rfl (yl_fa fo81_4 rfl) ?_
            refine WL.val (.inl rfl) rfl (yl_ldk 0 rfl rfl rfl na41) ?_
            refine WL.val (.inl rfl) rfl (yl_move rfl) ?_
            refine WL.val (.inl rfl) rfl (yl_iao es41 rfl rfl hay (by omega)) ?_
            refine WL.val (.inl rfl) rfl (yl_lda 0 ag81 rfl rfl rfl (hrow)) ?_
            refine WL.val (.inl rfl) rfl (yl_move rfl) ?_
            refine WL.val (.inl rfl) rfl (yl_move rfl) ?_
            refine WL.val (.inl rfl) rfl (yl_inc rfl rfl rfl (by omega)) ?_
            refine WL.callp (.inl rfl) rfl en91 rfl (fun w hw => by
                have := ih k2 (by omega) y ya yn (d + 1) w (hw.vs _ (by simp)) (by omega) hsub
                exact this) ?_
            refine WL.nil (WE.then_normal ?_)
            refine WC.cond rfl (fun hc8 => ?_) (fun hc8 => ?_)
            ·
              refine WC.seq (WC.region ?_)
              refine WL.val (.inl rfl) rfl (yl_assign rfl) ?_
              refine WL.nil (WE.then_normal (WC.ret (WE.block_ret (WE.then_ret (WE.then_ret ?_)))))
              refine WE.block_ret (WE.then_ret ?_)
              refine WE.ret1 rfl rfl fun w' hw => ?_
              exact ⟨by rw [hE, lookEs_any, any_at hyi hc8, Bool.or_true], hw.fr⟩
            ·
              refine WC.skip (WE.block_normal (WE.then_normal (WC.region ?_)))
              refine WL.val (.inl rfl) rfl (yl_move rfl) ?_
              refine WL.val (.inl rfl) rfl (yl_inc rfl rfl rfl (by omega)) ?_
              refine WL.val (.inl rfl) rfl (yl_assign rfl) ?_
              refine WL.nil ?_
              exact WE.again (i + 1) (by omega) ⟨by omega, fun j z hj hz => by rcases Nat.lt_succ_iff_lt_or_eq.1 hj with h | rfl; exact hall j z h hz; rw [hyi] at hz; injection hz with hz; subst hz; exact hc8⟩ (sc rfl (sc rfl (sc rfl (sc rfl sn)))) (fun _ h => h)
          ·
            have hge : ¬ i < x.args.length := by simpa using hc7
            have hnn : lookEs x.args 2 (d + 1) = false := by rw [lookEs_any]; exact any_false fun j y hj => hall j y (by have := (List.getElem?_eq_some_iff.1 hj).1; omega) hj
            refine WC.exit (WE.then_exit (WE.then_exit (WE.block_hit (WE.then_normal (WC.seq ?_)))))
            refine WC.region ?_
            refine WL.val (.inl rfl) rfl (yl_assign rfl) ?_
            refine WL.nil (WE.then_normal (WC.ret ?_))
            refine WE.ret1 rfl rfl fun w' hw => ?_
            exact ⟨by rw [hE, hno, hnn]; rfl, hw.fr⟩
      ·
        have hl2 : ¬ lv = 2 := by simp at hc3; omega
        refine WC.seq (WC.region ?_)
        refine WL.val (.inl rfl) rfl (yl_eq rfl rfl) ?_
        refine WL.val (.inl rfl) rfl (yl_assign rfl) ?_
        refine WL.nil (WE.then_normal ?_)
        refine WC.cond rfl (fun hc5 => ?_) (fun hc5 => ?_)
        ·
          have hl : lv = 3 := by simp at hc5; omega
          subst hl
          refine WC.seq ?_
          refine WC.draws0 [(0, true), (1, true), (2, false), (3, true), (4, true), (5, true), (6, true), (7, true), (8, false), (9, true), (10, true), (11, true), (12, true), (13, true), (14, false), (15, true), (16, true), (17, true), (18, true), (19, true), (20, true), (21, true), (22, true), (23, true), (24, true), (25, true), (26, true), (27, true), (28, true), (29, true), (30, true), (31, true), (32, true), (33, true), (34, false), (35, true), (36, true), (37, true), (38, true), (39, true), (40, true), (41, true), (42, true), (43, true), (44, true), (45, true), (46, true), (47, true), (48, true), (49, true), (50, true), (51, false), (52, true), (53, true), (54, true), (55, true), (56, true), (57, true), (58, true), (59, false), (60, true), (61, true), (62, true)] mixed (by kernel_rfl) (fun _ _ _ d _ h => by cases d <;> exact h) ?_
          refine WD.q rfl (.inl rfl) rfl (fun _ h => h) (yl_fa fo81_0 rfl) ?_
          refine WD.q rfl (.inl rfl) rfl (fun _ h => h) (yl_ldk 0 rfl rfl rfl na3) ?_
          refine WD.e rfl (fun _ h => h) ?_
          refine WL.callp (.inl rfl) rfl en109 rfl (fun w hw => exprRef_any _ w) ?_
          refine WL.nil (WE.toD ?_)
          refine WD.q rfl (.inl rfl) rfl (fun _ h => h) (yl_move rfl) ?_
          apply WD.and 6 rfl rfl rfl rfl rfl (.inl rfl) rfl (fun _ h => h) rfl rfl rfl rfl
          ·
            intro hg0
            refine WD.q rfl (.inr ⟨_, _, _, rfl, rfl, rfl⟩) rfl (fun _ h => h) (yl_fa fo81_2 rfl) ?_
            refine WD.q rfl (.inr ⟨_, _, _, rfl, rfl, rfl⟩) rfl (fun _ h => h) (yl_ldk 0 rfl rfl rfl na9) ?_
            refine WD.q rfl (.inr ⟨_, _, _, rfl, rfl, rfl⟩) rfl (fun _ h => h) (yl_fa fo81_3 rfl) ?_
            refine WD.q rfl (.inr ⟨_, _, _, rfl, rfl, rfl⟩) rfl (fun _ h => h) (yl_ldk 0 rfl rfl rfl na9) ?_
            refine WD.e rfl (fun _ h => h) ?_
            refine WL.callp (.inr ⟨_, _, _, rfl, rfl, rfl⟩) rfl en89 rfl (fun w hw => refFine_any _ _ w) ?_
            refine WL.nil (WE.toD ?_)
            refine WD.q rfl (.inr ⟨_, _, _, rfl, rfl, rfl⟩) rfl (fun _ h => h) (yl_not rfl) ?_
            exact GotD.intro 6 (fun _ h => h) rfl rfl rfl
          refine WD.q rfl (.inl rfl) rfl (fun _ h => h) (yl_move rfl) ?_
          apply WD.or 14 (x := (!within_ x.op 3 5 && (!(x.mod == []) || !(x.nm == [])))) rfl rfl rfl rfl rfl (.inl rfl) rfl (fun _ h => h) rfl rfl rfl rfl
          ·
            intro hg1
            refine WD.q rfl (.inr ⟨_, _, _, rfl, rfl, rfl⟩) rfl (fun _ h => h) (yl_fa fo81_0 rfl) ?_
            refine WD.q rfl (.inr ⟨_, _, _, rfl, rfl, rfl⟩) rfl (fun _ h => h) (yl_ldk 0 rfl rfl rfl na3) ?_
            refine WD.e rfl (fun _ h => h) ?_
            refine WL.callp (.inr ⟨_, _, _, rfl, rfl, rfl⟩) rfl en109 rfl (fun w hw => exprRef_any _ w) ?_
            refine WL.nil (WE.toD ?_)
            refine WD.q rfl (.inr ⟨_, _, _, rfl, rfl, rfl⟩) rfl (fun _ h => h) (yl_not rfl) ?_
            refine WD.q rfl (.inr ⟨_, _, _, rfl, rfl, rfl⟩) rfl (fun _ h => h) (yl_move rfl) ?_
            apply WD.and 8 rfl rfl rfl rfl rfl (.inr ⟨_, _, _, rfl, rfl, rfl⟩) rfl (fun _ h => h) rfl rfl rfl rfl
            ·
              intro hg2
              refine WD.q rfl (.inr ⟨_, _, _, rfl, rfl, rfl⟩) rfl (fun _ h => h) (yl_fa fo81_2 rfl) ?_
              refine WD.q rfl (.inr ⟨_, _, _, rfl, rfl, rfl⟩) rfl (fun _ h => h) (yl_ldk 0 rfl rfl rfl na9) ?_
              refine WD.q rfl (.inr ⟨_, _, _, rfl, rfl, rfl⟩) rfl (fun _ h => h) (yl_nes rfl rfl) ?_
              refine WD.q rfl (.inr ⟨_, _, _, rfl, rfl, rfl⟩) rfl (fun _ h => h) (yl_move rfl) ?_
              apply WD.or 3 rfl rfl rfl rfl rfl (.inr ⟨_, _, _, rfl, rfl, rfl⟩) rfl (fun _ h => h) rfl rfl rfl rfl
              ·
                intro hg3
                refine WD.q rfl (.inr ⟨_, _, _, rfl, rfl, rfl⟩) rfl (fun _ h => h) (yl_fa fo81_3 rfl) ?_
                refine WD.q rfl (.inr ⟨_, _, _, rfl, rfl, rfl⟩) rfl (fun _ h => h) (yl_ldk 0 rfl rfl rfl na9) ?_
                refine WD.q rfl (.inr ⟨_, _, _, rfl, rfl, rfl⟩) rfl (fun _ h => h) (yl_nes rfl rfl) ?_
                exact GotD.intro 3 (fun _ h => h) rfl rfl rfl
              exact GotD.intro 5 (fun _ h => h) rfl rfl rfl
            exact GotD.intro 6 (fun _ h => h) rfl rfl rfl
          refine WD.q rfl (.inl rfl) rfl (fun _ h => h) (yl_move rfl) ?_
          apply WD.or 9 rfl rfl rfl rfl rfl (.inl rfl) rfl (fun _ h => h) rfl rfl rfl rfl
          ·
            intro hg4
            refine WD.q rfl (.inr ⟨_, _, _, rfl, rfl, rfl⟩) rfl (fun _ h => h) (yl_fa fo81_0 rfl) ?_
            refine WD.q rfl (.inr ⟨_, _, _, rfl, rfl, rfl⟩) rfl (fun _ h => h) (yl_ldk 0 rfl rfl rfl na3) ?_
            refine WD.q rfl (.inr ⟨_, _, _, rfl, rfl, rfl⟩) rfl (fun _ h => h) (yl_eq rfl rfl) ?_
            refine WD.q rfl (.inr ⟨_, _, _, rfl, rfl, rfl⟩) rfl (fun _ h => h) (yl_move rfl) ?_
            apply WD.and 4 rfl rfl rfl rfl rfl (.inr ⟨_, _, _, rfl, rfl, rfl⟩) rfl (fun _ h => h) rfl rfl rfl rfl
            ·
              intro hg5
              refine WD.q rfl (.inr ⟨_, _, _, rfl, rfl, rfl⟩) rfl (fun _ h => h) (yl_fa fo81_1 rfl) ?_
              refine WD.q rfl (.inr ⟨_, _, _, rfl, rfl, rfl⟩) rfl (fun _ h => h) (yl_ldk 0 rfl rfl rfl na3) ?_
              refine WD.e rfl (fun _ h => h) ?_
              refine WL.callp (.inr ⟨_, _, _, rfl, rfl, rfl⟩) rfl en40 rfl (fun w hw => within_any _ _ _ w) ?_
              refine WL.nil (WE.toD ?_)
              refine WD.q rfl (.inr ⟨_, _, _, rfl, rfl, rfl⟩) rfl (fun _ h => h) (yl_not rfl) ?_
              exact GotD.intro 4 (fun _ h => h) rfl rfl rfl
            exact GotD.intro 5 (fun _ h => h) rfl rfl rfl
          refine WD.q rfl (.inl rfl) rfl (fun _ h => h) (yl_move rfl) ?_
          apply WD.or 8 rfl rfl rfl rfl rfl (.inl rfl) rfl (fun _ h => h) rfl rfl rfl rfl
          ·
            intro hg6
            refine WD.q rfl (.inr ⟨_, _, _, rfl, rfl, rfl⟩) rfl (fun _ h => h) (yl_fa fo81_0 rfl) ?_
            refine WD.q rfl (.inr ⟨_, _, _, rfl, rfl, rfl⟩) rfl (fun _ h => h) (yl_ldk 0 rfl rfl rfl na3) ?_
            refine WD.q rfl (.inr ⟨_, _, _, rfl, rfl, rfl⟩) rfl (fun _ h => h) (yl_ne rfl rfl) ?_
            refine WD.q rfl (.inr ⟨_, _, _, rfl, rfl, rfl⟩) rfl (fun _ h => h) (yl_move rfl) ?_
            apply WD.and 3 rfl rfl rfl rfl rfl (.inr ⟨_, _, _, rfl, rfl, rfl⟩) rfl (fun _ h => h) rfl rfl rfl rfl
            ·
              intro hg7
              refine WD.q rfl (.inr ⟨_, _, _, rfl, rfl, rfl⟩) rfl (fun _ h => h) (yl_fa fo81_1 rfl) ?_
              refine WD.q rfl (.inr ⟨_, _, _, rfl, rfl, rfl⟩) rfl (fun _ h => h) (yl_ldk 0 rfl rfl rfl na3) ?_
              refine WD.q rfl (.inr ⟨_, _, _, rfl, rfl, rfl⟩) rfl (fun _ h => h) (yl_ne rfl rfl) ?_
              exact GotD.intro 3 (fun _ h => h) rfl rfl rfl
            exact GotD.intro 5 (fun _ h => h) rfl rfl rfl
          refine WD.q rfl (.inl rfl) rfl (fun _ h => h) (yl_move rfl) ?_
          apply WD.or 13 rfl rfl rfl rfl rfl (.inl rfl) rfl (fun _ h => h) rfl rfl rfl rfl
          ·
            intro hg8
            refine WD.q rfl (.inr ⟨_, _, _, rfl, rfl, rfl⟩) rfl (fun _ h => h) (yl_fa fo81_0 rfl) ?_
            refine WD.q rfl (.inr ⟨_, _, _, rfl, rfl, rfl⟩) rfl (fun _ h => h) (yl_ldk 0 rfl rfl rfl na3) ?_
            refine WD.e rfl (fun _ h => h) ?_
            refine WL.callp (.inr ⟨_, _, _, rfl, rfl, rfl⟩) rfl en110 rfl (fun w hw => exprArgs_any _ w) ?_
            refine WL.nil (WE.toD ?_)
            refine WD.q rfl (.inr ⟨_, _, _, rfl, rfl, rfl⟩) rfl (fun _ h => h) (yl_ge rfl rfl) ?_
            refine WD.q rfl (.inr ⟨_, _, _, rfl, rfl, rfl⟩) rfl (fun _ h => h) (yl_move rfl) ?_
            apply WD.and 7 rfl rfl rfl rfl rfl (.inr ⟨_, _, _, rfl, rfl, rfl⟩) rfl (fun _ h => h) rfl rfl rfl rfl
            ·
              intro hg9
              refine WD.q rfl (.inr ⟨_, _, _, rfl, rfl, rfl⟩) rfl (fun _ h => h) (yl_fa fo81_4 rfl) ?_
              refine WD.q rfl (.inr ⟨_, _, _, rfl, rfl, rfl⟩) rfl (fun _ h => h) (yl_ldk 0 rfl rfl rfl na41) ?_
              refine WD.q rfl (.inr ⟨_, _, _, rfl, rfl, rfl⟩) rfl (fun _ h => h) (yl_len es41 rfl) ?_
              refine WD.q rfl (.inr ⟨_, _, _, rfl, rfl, rfl⟩) rfl (fun _ h => h) (yl_fa fo81_0 rfl) ?_
              refine WD.q rfl (.inr ⟨_, _, _, rfl, rfl, rfl⟩) rfl (fun _ h => h) (yl_ldk 0 rfl rfl rfl na3) ?_
              refine WD.e rfl (fun _ h => h) ?_
              refine WL.callp (.inr ⟨_, _, _, rfl, rfl, rfl⟩) rfl en110 rfl (fun w hw => exprArgs_any _ w) ?_
              refine WL.nil (WE.toD ?_)
              refine WD.q rfl (.inr ⟨_, _, _, rfl, rfl, rfl⟩) rfl (fun _ h => h) (yl_ne rfl rfl) ?_
              exact GotD.intro 7 (fun _ h => h) rfl rfl rfl
            exact GotD.intro 6 (fun _ h => h) rfl rfl rfl
          refine WD.nil (fun _ h => h) ?_
          refine WE.then_normal ?_
          refine WC.cond rfl (fun hc6 => ?_) (fun hc6 => ?_)
          ·
            have hy : lvE 3 x.op x.n x.mod x.nm x.args.length = true := hc6
            refine WC.seq (WC.region ?_)
            refine WL.val (.inl rfl) rfl (yl_assign rfl) ?_
            refine WL.nil (WE.then_normal (WC.ret (WE.block_ret (WE.then_ret ?_))))
            refine WE.ret1 rfl rfl fun w' hw => ?_
            exact ⟨by rw [hE, hy]; rfl, hw.fr⟩
          ·
            have hno : lvE 3 x.op x.n x.mod x.nm x.args.length = false := hc6
            refine WC.skip (WE.block_normal (WE.then_normal (WC.seq (WC.seq (WC.region ?_)))))
            refine WL.val (.inl rfl) rfl (yl_assign rfl) ?_
            refine WL.nil (WE.then_normal (WC.block ?_))
            refine WC.loopW (ι := Nat) (fun i => [(7, .int .i64 (i : Int))]) [(1, _), (2, _), (3, _)] (fun i => i ≤ x.args.length ∧ ∀ j y, j < i → x.args[j]? = some y → lookE y 3 (d + 1) = false) (fun i => x.args.length - i) 0 ⟨Nat.zero_le _, by simp⟩ (sc rfl (sc rfl (sc rfl (sc rfl sn)))) ?_
            intro i ⟨hi, hall⟩
            refine WC.seq (WC.seq (WC.region ?_))
            refine WL.val (.inl rfl) rfl (yl_move rfl) ?_
            refine WL.val (.inl rfl) rfl (yl_fa fo81_4 rfl) ?_
            refine WL.val (.inl rfl) rfl (yl_ldk 0 rfl rfl rfl na41) ?_
            refine WL.val (.inl rfl) rfl (yl_len es41 rfl) ?_
            refine WL.val (.inl rfl) rfl (yl_lt rfl rfl) ?_
            refine WL.nil (WE.then_normal ?_)
            refine WC.cond rfl (fun hc7 => ?_) (fun hc7 => ?_)
            ·
              have hlt : i < x.args.length := by simpa using hc7
              obtain ⟨y, hyi⟩ : ∃ q, x.args[i]? = some q := ⟨_, List.getElem?_eq_getElem hlt⟩
              obtain ⟨pby, poy, hay, hry⟩ := hm.elt i y hyi
              obtain ⟨k2, rfl⟩ : ∃ k2, k = k2 + 1 := by
                cases k with
                | zero => exact hry.elim
                | succ k2 => exact ⟨k2, rfl⟩
              obtain ⟨ya, yn, hrow, hsub⟩ := hry
              refine WC.skip (WE.then_normal (WC.seq (WC.block (WC.seq (WC.region ?_)))))
              refine WL.val (.inl rfl) rfl (yl_fa fo81_4 rfl) ?_
              refine WL.val (.inl rfl) rfl (yl_ldk 0 rfl rfl rfl na41) ?_
              refine WL.val (.inl rfl) rfl (yl_move rfl) ?_
              refine WL.val (.inl rfl) rfl (yl_iao es41 rfl rfl hay (by omega)) ?_
              refine WL.val (.inl rfl) rfl (yl_lda 0 ag81 rfl rfl rfl (hrow)) ?_
              refine WL.val (.inl rfl) rfl (yl_move rfl) ?_
              refine WL.val (.inl rfl) rfl (yl_move rfl) ?_
              refine WL.val (.inl rfl) rfl (yl_inc rfl rfl rfl (by omega)) ?_
              refine WL.callp (.inl rfl) rfl en91 rfl (fun w hw => by
                  have := ih k2 (by omega) y ya yn (d + 1) w (hw.vs _ (by simp)) (by omega) hsub
                  exact this) ?_
              refine WL.nil (WE.then_normal ?_)
              refine WC.cond rfl (fun hc8 => ?_) (fun hc8 => ?_)
              ·
                refine WC.seq (WC.region ?_)
                refine WL.val (.inl rfl) rfl (yl_assign rfl) ?_
                refine WL.nil (WE.then_normal (WC.ret (WE.block_ret (WE.then_ret (WE.then_ret ?_)))))
                refine WE.block_ret (WE.then_ret ?_)
                refine WE.ret1 rfl rfl fun w' hw => ?_
                exact ⟨by rw [hE, lookEs_any, any_at hyi hc8, Bool.or_true], hw.fr⟩
              ·
                refine WC.skip (WE.block_normal (WE.then_normal (WC.region ?_)))
                refine WL.val (.inl rfl) rfl (yl_move rfl) ?_
                refine WL.val (.inl rfl) rfl (yl_inc rfl rfl rfl (by omega)) ?_
                refine WL.val (.inl rfl) rfl (yl_assign rfl) ?_
                refine WL.nil ?_
                exact WE.again (i + 1) (by omega) ⟨by omega, fun j z hj hz => by rcases Nat.lt_succ_iff_lt_or_eq.1 hj with h | rfl; exact hall j z h hz; rw [hyi] at hz; injection hz with hz; subst hz; exact hc8⟩ (sc rfl (sc rfl (sc rfl (sc rfl sn)))) (fun _ h => h)
            ·
              have hge : ¬ i < x.args.length := by simpa using hc7
              have hnn : lookEs x.args 3 (d + 1) = false := by rw [lookEs_any]; exact any_false fun j y hj => hall j y (by have := (List.getElem?_eq_some_iff.1 hj).1; omega) hj
              refine WC.exit (WE.then_exit (WE.then_exit (WE.block_hit (WE.then_normal (WC.seq ?_)))))
              refine WC.region ?_
              refine WL.val (.inl rfl) rfl (yl_assign rfl) ?_
              refine WL.nil (WE.then_normal (WC.ret ?_))
              refine WE.ret1 rfl rfl fun w' hw => ?_
              exact ⟨by rw [hE, hno, hnn]; rfl, hw.fr⟩
        ·
          exact (show False by simp at hc5; omega).elim
end Go.Proofs.YtjfldjidhkfnbaaGreatDoor
end
section
namespace Go.Proofs.YtjfldjidhkfnbaaGreatDoor
open Go.Bw
set_option linter.unusedVariables false
set_option linter.unusedSimpArgs false
theorem lookB_no {l : List TStmt} {lv d : Nat} (h : ¬ 6 < d) : lookB l lv d = (((lv == 2) && decide (10 < l.length)) || lookSs l lv d) := by unfold lookB blkL; rw [if_neg h]
def LookB (H : View) (ke k lv : Nat) : Prop := ∀ (l : List TStmt) (a : Option Addr) (n d : Nat) (w : World), Le H w → d ≤ 7 → Sl (RdS ke k) 6 H a n l → Calls Tryz.prog 41 #[.slice a l.length n, .int .i64 (lv : Int), .int .i64 (d : Int)] w fun e w' => e = .returned (.bool (lookB l lv d)) ∧ Ext w w'
theorem str_one (s : Tx) : (strC s).all (·.oneCell') = true := rfl
theorem modL_end {m : TMod} {lv : Nat} (h0 : (((lv == 2) && ((decide (3 < m.uses.length) || decide (10 < m.decls.length)) || decide (6 < m.procs.length))) || badN lv m.nm) = false) (h1 : m.uses.any (badN lv) = false) (h2 : m.decls.any (declL lv) = false) (h3 : m.procs.any (procL lv) = false) : modL m lv = lookB m.main lv 1 := by
  unfold modL; rw [h0, h1, h2, h3]; rfl
theorem modL_0 {m : TMod} {lv : Nat} (h0 : (((lv == 2) && ((decide (3 < m.uses.length) || decide (10 < m.decls.length)) || decide (6 < m.procs.length))) || badN lv m.nm) = true) : modL m lv = true := by unfold modL; rw [h0]; rfl
theorem modL_1 {m : TMod} {lv : Nat} (h : m.uses.any (badN lv) = true) : modL m lv = true := by unfold modL; rw [h]; simp
theorem modL_2 {m : TMod} {lv : Nat} (h : m.decls.any (declL lv) = true) : modL m lv = true := by unfold modL; rw [h]; simp
theorem modL_3 {m : TMod} {lv : Nat} (h : m.procs.any (procL lv) = true) : modL m lv = true := by unfold modL; rw [h]; simp
theorem en41 : Enters Tryz.prog 41 := enters_of Tryz.func41 (by kernel_rfl) rfl
theorem en88 : Enters Tryz.prog 88 := enters_of Tryz.func88 (by kernel_rfl) rfl
theorem en90 : Enters Tryz.prog 90 := enters_of Tryz.func90 (by kernel_rfl) rfl
theorem en70 : Enters Tryz.prog 70 := enters_of Tryz.func70 (by kernel_rfl) rfl
theorem en23 : Enters Tryz.prog 23 := enters_of Tryz.func23 (by kernel_rfl) rfl
theorem stmtLook_any (H : View) (ke k : Nat) (x : TStmt) (a : Option Addr) (n : Nat) (a2 : Option Addr) (n2 : Nat) (a3 : Option Addr) (n3 lv d : Nat) (w : World) (hH : Le H w) (hlv : 1 ≤ lv ∧ lv ≤ 3) (hd0 : d ≤ 6) (hB : LookB H ke k lv) (hs1 : Sl (RdE ke) 5 H a n x.args) (hs2 : Sl (RdS ke k) 6 H a2 n2 x.body) (hs3 : Sl (RdS ke k) 6 H a3 n3 x.other) :
    Calls Tryz.prog 70 #[.agg #[.int .i64 x.op, st x.mod, st x.nm, .slice a x.args.length n, .slice a2 x.body.length n2, .slice a3 x.other.length n3], .int .i64 (lv : Int), .int .i64 (d : Int)] w fun e w' => e = .returned (.bool (lookS x lv d)) ∧ Ext w w' := by
  have hcap := hs1.cap
  have hmax := hs1.max
  have hcap2 := hs2.cap
  have hcap3 := hs3.cap
  have hmax2 := hs2.max
  have hmax3 := hs3.max
  have hE := lookS_eq x lv d
  refine enter Tryz.func70 rfl 144 rfl rfl ?_
  refine WC.world (W' := Ws w [] [] [H]) (fun _ e => by subst e; exact Ws.init (by simp [hH])) ?_
  refine WC.seq (WC.region ?_)
  refine WL.box (.inl rfl) rfl rfl fun b3 => ?_
  refine WL.val (.inl rfl) rfl (yl_assign rfl) ?_
  refine WL.nil (WE.then_normal (WC.seq (WC.seq (WC.region ?_))))
  refine WL.val (.inl rfl) rfl (yl_move rfl) ?_
  refine WL.nil (WE.then_normal (WC.block (WC.seq (WC.region ?_))))
  refine WL.val (.inl rfl) rfl (yl_eq rfl rfl) ?_
  refine WL.val (.inl rfl) rfl (yl_assign rfl) ?_
  refine WL.nil (WE.then_normal ?_)
  refine WC.cond rfl (fun hc0 => ?_) (fun hc0 => ?_)
  ·
    have hl : lv = 1 := by simp at hc0; omega
    subst hl
    refine WC.seq (WC.region ?_)
    refine WL.val (.inl rfl) rfl (yl_fa fo43_0 rfl) ?_
    refine WL.val (.inl rfl) rfl (yl_ldk 0 rfl rfl rfl na3) ?_
    refine WL.callp (.inl rfl) rfl en40 rfl (fun w hw => within_any _ _ _ w) ?_
    refine WL.val (.inl rfl) rfl (yl_not rfl) ?_
    refine WL.nil (WE.then_normal ?_)
    refine WC.cond rfl (fun hc1 => ?_) (fun hc1 => ?_)
    ·
      have hy : lvS 1 x.op x.mod x.nm x.args.length x.body.length x.other.length = true := hc1
      refine WC.seq (WC.region ?_)
      refine WL.val (.inl rfl) rfl (yl_assign rfl) ?_
      refine WL.nil (WE.then_normal (WC.ret (WE.block_ret (WE.then_ret ?_))))
      refine WE.ret1 rfl rfl fun w' hw => ?_
      exact ⟨by rw [hE, hy]; rfl, hw.fr⟩
    ·
      have hno : lvS 1 x.op x.mod x.nm x.args.length x.body.length x.other.length = false := hc1
      refine WC.skip (WE.block_normal (WE.then_normal (WC.seq (WC.seq (WC.region ?_)))))
      refine WL.val (.inl rfl) rfl (yl_assign rfl) ?_
      refine WL.nil (WE.then_normal (WC.block ?_))
      refine WC.loopW (ι := Nat) (fun i => [(7, .int .i64 (i : Int))]) [(1, _), (2, _), (3, _)] (fun i => i ≤ x.args.length ∧ ∀ j y, j < i → x.args[j]? = some y → lookE y 1 1 = false) (fun i => x.args.length - i) 0 ⟨Nat.zero_le _, by simp⟩ (sc rfl (sc rfl (sc rfl (sc rfl sn)))) ?_
      intro i ⟨hi, hall⟩
      refine WC.seq (WC.seq (WC.region ?_))
      refine WL.val (.inl rfl) rfl (yl_move rfl) ?_
      refine WL.val (.inl rfl) rfl (yl_fa fo43_3 rfl) ?_
      refine WL.val (.inl rfl) rfl (yl_ldk 0 rfl rfl rfl na41) ?_
      refine WL.val (.inl rfl) rfl (yl_len es41 rfl) ?_
      refine WL.val (.inl rfl) rfl (yl_lt rfl rfl) ?_
      refine WL.nil (WE.then_normal ?_)
      refine WC.cond rfl (fun hc6 => ?_) (fun hc6 => ?_)
      ·
        have hlt : i < x.args.length := by simpa using hc6
        obtain ⟨y, hyi⟩ : ∃ q, x.args[i]? = some q := ⟨_, List.getElem?_eq_getElem hlt⟩
        obtain ⟨pby, poy, hay, hry⟩ := hs1.elt i y hyi
        obtain ⟨k2, rfl⟩ : ∃ k2, ke = k2 + 1 := by
          cases ke with
          | zero => exact hry.elim
          | succ k2 => exact ⟨k2, rfl⟩
        obtain ⟨ya, yn, hrow, hsub⟩ := hry
        refine WC.skip (WE.then_normal (WC.seq (WC.block (WC.seq (WC.region ?_)))))
        refine WL.val (.inl rfl) rfl (yl_fa fo43_3 rfl) ?_
        refine WL.val (.inl rfl) rfl (yl_ldk 0 rfl rfl rfl na41) ?_
        refine WL.val (.inl rfl) rfl (yl_move rfl) ?_
        refine WL.val (.inl rfl) rfl (yl_iao es41 rfl rfl hay (by omega)) ?_
        refine WL.val (.inl rfl) rfl (yl_lda 0 ag81 rfl rfl rfl (hrow)) ?_
        refine WL.val (.inl rfl) rfl (yl_move rfl) ?_
        refine WL.callp (.inl rfl) rfl en91 rfl (fun w hw => exprLook_any H k2 y ya yn _ 1 w (hw.vs _ (by simp)) hlv (by omega) hsub) ?_
        refine WL.nil (WE.then_normal ?_)
        refine WC.cond rfl (fun hc7 => ?_) (fun hc7 => ?_)
        ·
          refine WC.seq (WC.region ?_)
          refine WL.val (.inl rfl) rfl (yl_assign rfl) ?_
          refine WL.nil (WE.then_normal (WC.ret (WE.block_ret (WE.then_ret (WE.then_ret ?_)))))
          refine WE.block_ret (WE.then_ret ?_)
          refine WE.ret1 rfl rfl fun w' hw => ?_
          exact ⟨by rw [hE, lookEs_any, any_at hyi hc7, Bool.or_true, Bool.true_or], hw.fr⟩
        ·
          refine WC.skip (WE.block_normal (WE.then_normal (WC.region ?_)))
          refine WL.val (.inl rfl) rfl (yl_move rfl) ?_
          refine WL.val (.inl rfl) rfl (yl_inc rfl rfl rfl (by omega)) ?_
          refine WL.val (.inl rfl) rfl (yl_assign rfl) ?_
          refine WL.nil ?_
          exact WE.again (i + 1) (by omega) ⟨by omega, fun j z hj hz => by rcases Nat.lt_succ_iff_lt_or_eq.1 hj with h | rfl; exact hall j z h hz; rw [hyi] at hz; injection hz with hz; subst hz; exact hc7⟩ (sc rfl (sc rfl (sc rfl (sc rfl sn)))) (fun _ h => h)
      ·
        have hge : ¬ i < x.args.length := by simpa using hc6
        have hnn : lookEs x.args 1 1 = false := by rw [lookEs_any]; exact any_false fun j y hj => hall j y (by have := (List.getElem?_eq_some_iff.1 hj).1; omega) hj
        refine WC.exit (WE.then_exit (WE.then_exit (WE.block_hit (WE.then_normal (WC.seq ?_)))))
        refine WC.region ?_
        refine WL.val (.inl rfl) rfl (yl_fa fo43_0 rfl) ?_
        refine WL.val (.inl rfl) rfl (yl_ldk 0 rfl rfl rfl na3) ?_
        refine WL.val (.inl rfl) rfl (yl_eq rfl rfl) ?_
        refine WL.val (.inl rfl) rfl (yl_move rfl) ?_
        apply WL.or 3 rfl rfl rfl rfl (.inl rfl) rfl rfl rfl rfl rfl
        ·
          intro hg0
          refine WL.val (.inr ⟨_, _, _, rfl, rfl, rfl⟩) rfl (yl_fa fo43_0 rfl) ?_
          refine WL.val (.inr ⟨_, _, _, rfl, rfl, rfl⟩) rfl (yl_ldk 0 rfl rfl rfl na3) ?_
          refine WL.val (.inr ⟨_, _, _, rfl, rfl, rfl⟩) rfl (yl_eq rfl rfl) ?_
          exact Got.intro 3 rfl rfl rfl
        refine WL.val (.inl rfl) rfl (yl_assign rfl) ?_
        refine WL.nil (WE.then_normal (WC.seq (WC.region ?_)))
        refine WL.val (.inl rfl) rfl (yl_move rfl) ?_
        refine WL.val (.inl rfl) rfl (yl_move rfl) ?_
        apply WL.or 4 rfl rfl rfl rfl (.inl rfl) rfl rfl rfl rfl rfl
        ·
          intro hg1
          refine WL.val (.inr ⟨_, _, _, rfl, rfl, rfl⟩) rfl (yl_fa fo43_4 rfl) ?_
          refine WL.val (.inr ⟨_, _, _, rfl, rfl, rfl⟩) rfl (yl_ldk 0 rfl rfl rfl na25) ?_
          refine WL.val (.inr ⟨_, _, _, rfl, rfl, rfl⟩) rfl (yl_len es25 rfl) ?_
          refine WL.val (.inr ⟨_, _, _, rfl, rfl, rfl⟩) rfl (yl_gt rfl rfl) ?_
          rw [int_lt0]
          exact Got.intro 4 rfl rfl rfl
        refine WL.val (.inl rfl) rfl (yl_move rfl) ?_
        apply WL.and 6 rfl rfl rfl rfl (.inl rfl) rfl rfl rfl rfl rfl
        ·
          intro hg2
          refine WL.val (.inr ⟨_, _, _, rfl, rfl, rfl⟩) rfl (yl_fa fo43_4 rfl) ?_
          refine WL.val (.inr ⟨_, _, _, rfl, rfl, rfl⟩) rfl (yl_ldk 0 rfl rfl rfl na25) ?_
          refine WL.val (.inr ⟨_, _, _, rfl, rfl, rfl⟩) rfl (yl_move rfl) ?_
          refine WL.val (.inr ⟨_, _, _, rfl, rfl, rfl⟩) rfl (yl_move rfl) ?_
          refine WL.val (.inr ⟨_, _, _, rfl, rfl, rfl⟩) rfl (yl_inc rfl rfl rfl (by omega)) ?_
          refine WL.callp (.inr ⟨_, _, _, rfl, rfl, rfl⟩) rfl en41 rfl (fun w hw => hB x.body a2 n2 (d + 1) w (hw.vs _ (by simp)) (by omega) hs2) ?_
          exact Got.intro 6 rfl rfl rfl
        refine WL.val (.inl rfl) rfl (yl_move rfl) ?_
        apply WL.or 12 rfl rfl rfl rfl (.inl rfl) rfl rfl rfl rfl rfl
        ·
          intro hg3
          refine WL.val (.inr ⟨_, _, _, rfl, rfl, rfl⟩) rfl (yl_fa fo43_5 rfl) ?_
          refine WL.val (.inr ⟨_, _, _, rfl, rfl, rfl⟩) rfl (yl_ldk 0 rfl rfl rfl na25) ?_
          refine WL.val (.inr ⟨_, _, _, rfl, rfl, rfl⟩) rfl (yl_len es25 rfl) ?_
          refine WL.val (.inr ⟨_, _, _, rfl, rfl, rfl⟩) rfl (yl_gt rfl rfl) ?_
          rw [int_lt0]
          refine WL.val (.inr ⟨_, _, _, rfl, rfl, rfl⟩) rfl (yl_move rfl) ?_
          apply WL.and 6 rfl rfl rfl rfl (.inr ⟨_, _, _, rfl, rfl, rfl⟩) rfl rfl rfl rfl rfl
          ·
            intro hg4
            refine WL.val (.inr ⟨_, _, _, rfl, rfl, rfl⟩) rfl (yl_fa fo43_5 rfl) ?_
            refine WL.val (.inr ⟨_, _, _, rfl, rfl, rfl⟩) rfl (yl_ldk 0 rfl rfl rfl na25) ?_
            refine WL.val (.inr ⟨_, _, _, rfl, rfl, rfl⟩) rfl (yl_move rfl) ?_
            refine WL.val (.inr ⟨_, _, _, rfl, rfl, rfl⟩) rfl (yl_move rfl) ?_
            refine WL.val (.inr ⟨_, _, _, rfl, rfl, rfl⟩) rfl (yl_inc rfl rfl rfl (by omega)) ?_
            refine WL.callp (.inr ⟨_, _, _, rfl, rfl, rfl⟩) rfl en41 rfl (fun w hw => hB x.other a3 n3 (d + 1) w (hw.vs _ (by simp)) (by omega) hs3) ?_
            exact Got.intro 6 rfl rfl rfl
          exact Got.intro 6 rfl rfl rfl
        refine WL.val (.inl rfl) rfl (yl_assign rfl) ?_
        refine WL.nil (WE.then_normal (WC.ret ?_))
        refine WE.ret1 rfl rfl fun w' hw => ?_
        exact ⟨by rw [hE, hno, hnn]; rfl, hw.fr⟩
  ·
    have hl1 : ¬ lv = 1 := by simp at hc0; omega
    refine WC.seq (WC.region ?_)
    refine WL.val (.inl rfl) rfl (yl_eq rfl rfl) ?_
    refine WL.val (.inl rfl) rfl (yl_assign rfl) ?_
    refine WL.nil (WE.then_normal ?_)
    refine WC.cond rfl (fun hc2 => ?_) (fun hc2 => ?_)
    ·
      have hl : lv = 2 := by simp at hc2; omega
      subst hl
      refine WC.seq (WC.region ?_)
      refine WL.val (.inl rfl) rfl (yl_fa fo43_3 rfl) ?_
      refine WL.val (.inl rfl) rfl (yl_ldk 0 rfl rfl rfl na41) ?_
      refine WL.val (.inl rfl) rfl (yl_len es41 rfl) ?_
      refine WL.val (.inl rfl) rfl (yl_gt rfl rfl) ?_
      rw [int_lt3]
      refine WL.nil (WE.then_normal ?_)
      refine WC.cond rfl (fun hc3 => ?_) (fun hc3 => ?_)
      ·
        have hy : lvS 2 x.op x.mod x.nm x.args.length x.body.length x.other.length = true := hc3
        refine WC.seq (WC.region ?_)
        refine WL.val (.inl rfl) rfl (yl_assign rfl) ?_
        refine WL.nil (WE.then_normal (WC.ret (WE.block_ret (WE.then_ret ?_))))
        refine WE.ret1 rfl rfl fun w' hw => ?_
        exact ⟨by rw [hE, hy]; rfl, hw.fr⟩
      ·
        have hno : lvS 2 x.op x.mod x.nm x.args.length x.body.length x.other.length = false := hc3
        refine WC.skip (WE.block_normal (WE.then_normal (WC.seq (WC.seq (WC.region ?_)))))
        refine WL.val (.inl rfl) rfl (yl_assign rfl) ?_
        refine WL.nil (WE.then_normal (WC.block ?_))
        refine WC.loopW (ι := Nat) (fun i => [(7, .int .i64 (i : Int))]) [(1, _), (2, _), (3, _)] (fun i => i ≤ x.args.length ∧ ∀ j y, j < i → x.args[j]? = some y → lookE y 2 1 = false) (fun i => x.args.length - i) 0 ⟨Nat.zero_le _, by simp⟩ (sc rfl (sc rfl (sc rfl (sc rfl sn)))) ?_
        intro i ⟨hi, hall⟩
        refine WC.seq (WC.seq (WC.region ?_))
        refine WL.val (.inl rfl) rfl (yl_move rfl) ?_
        refine WL.val (.inl rfl) rfl (yl_fa fo43_3 rfl) ?_
        refine WL.val (.inl rfl) rfl (yl_ldk 0 rfl rfl rfl na41) ?_
        refine WL.val (.inl rfl) rfl (yl_len es41 rfl) ?_
        refine WL.val (.inl rfl) rfl (yl_lt rfl rfl) ?_
        refine WL.nil (WE.then_normal ?_)
        refine WC.cond rfl (fun hc6 => ?_) (fun hc6 => ?_)
        ·
          have hlt : i < x.args.length := by simpa using hc6
          obtain ⟨y, hyi⟩ : ∃ q, x.args[i]? = some q := ⟨_, List.getElem?_eq_getElem hlt⟩
          obtain ⟨pby, poy, hay, hry⟩ := hs1.elt i y hyi
          obtain ⟨k2, rfl⟩ : ∃ k2, ke = k2 + 1 := by
            cases ke with
            | zero => exact hry.elim
            | succ k2 => exact ⟨k2, rfl⟩
          obtain ⟨ya, yn, hrow, hsub⟩ := hry
          refine WC.skip (WE.then_normal (WC.seq (WC.block (WC.seq (WC.region ?_)))))
          refine WL.val (.inl rfl) rfl (yl_fa fo43_3 rfl) ?_
          refine WL.val (.inl rfl) rfl (yl_ldk 0 rfl rfl rfl na41) ?_
          refine WL.val (.inl rfl) rfl (yl_move rfl) ?_
          refine WL.val (.inl rfl) rfl (yl_iao es41 rfl rfl hay (by omega)) ?_
          refine WL.val (.inl rfl) rfl (yl_lda 0 ag81 rfl rfl rfl (hrow)) ?_
          refine WL.val (.inl rfl) rfl (yl_move rfl) ?_
          refine WL.callp (.inl rfl) rfl en91 rfl (fun w hw => exprLook_any H k2 y ya yn _ 1 w (hw.vs _ (by simp)) hlv (by omega) hsub) ?_
          refine WL.nil (WE.then_normal ?_)
          refine WC.cond rfl (fun hc7 => ?_) (fun hc7 => ?_)
          ·
            refine WC.seq (WC.region ?_)
            refine WL.val (.inl rfl) rfl (yl_assign rfl) ?_
            refine WL.nil (WE.then_normal (WC.ret (WE.block_ret (WE.then_ret (WE.then_ret ?_)))))
            refine WE.block_ret (WE.then_ret ?_)
            refine WE.ret1 rfl rfl fun w' hw => ?_
            exact ⟨by rw [hE, lookEs_any, any_at hyi hc7, Bool.or_true, Bool.true_or], hw.fr⟩
          ·
            refine WC.skip (WE.block_normal (WE.then_normal (WC.region ?_)))
            refine WL.val (.inl rfl) rfl (yl_move rfl) ?_
            refine WL.val (.inl rfl) rfl (yl_inc rfl rfl rfl (by omega)) ?_
            refine WL.val (.inl rfl) rfl (yl_assign rfl) ?_
            refine WL.nil ?_
            exact WE.again (i + 1) (by omega) ⟨by omega, fun j z hj hz => by rcases Nat.lt_succ_iff_lt_or_eq.1 hj with h | rfl; exact hall j z h hz; rw [hyi] at hz; injection hz with hz; subst hz; exact hc7⟩ (sc rfl (sc rfl (sc rfl (sc rfl sn)))) (fun _ h => h)
        ·
          have hge : ¬ i < x.args.length := by simpa using hc6
          have hnn : lookEs x.args 2 1 = false := by rw [lookEs_any]; exact any_false fun j y hj => hall j y (by have := (List.getElem?_eq_some_iff.1 hj).1; omega) hj
          refine WC.exit (WE.then_exit (WE.then_exit (WE.block_hit (WE.then_normal (WC.seq ?_)))))
          refine WC.region ?_
          refine WL.val (.inl rfl) rfl (yl_fa fo43_0 rfl) ?_
          refine WL.val (.inl rfl) rfl (yl_ldk 0 rfl rfl rfl na3) ?_
          refine WL.val (.inl rfl) rfl (yl_eq rfl rfl) ?_
          refine WL.val (.inl rfl) rfl (yl_move rfl) ?_
          apply WL.or 3 rfl rfl rfl rfl (.inl rfl) rfl rfl rfl rfl rfl
          ·
            intro hg0
            refine WL.val (.inr ⟨_, _, _, rfl, rfl, rfl⟩) rfl (yl_fa fo43_0 rfl) ?_
            refine WL.val (.inr ⟨_, _, _, rfl, rfl, rfl⟩) rfl (yl_ldk 0 rfl rfl rfl na3) ?_
            refine WL.val (.inr ⟨_, _, _, rfl, rfl, rfl⟩) rfl (yl_eq rfl rfl) ?_
            exact Got.intro 3 rfl rfl rfl
          refine WL.val (.inl rfl) rfl (yl_assign rfl) ?_
          refine WL.nil (WE.then_normal (WC.seq (WC.region ?_)))
          refine WL.val (.inl rfl) rfl (yl_move rfl) ?_
          refine WL.val (.inl rfl) rfl (yl_move rfl) ?_
          apply WL.or 4 rfl rfl rfl rfl (.inl rfl) rfl rfl rfl rfl rfl
          ·
            intro hg1
            refine WL.val (.inr ⟨_, _, _, rfl, rfl, rfl⟩) rfl (yl_fa fo43_4 rfl) ?_
            refine WL.val (.inr ⟨_, _, _, rfl, rfl, rfl⟩) rfl (yl_ldk 0 rfl rfl rfl na25) ?_
            refine WL.val (.inr ⟨_, _, _, rfl, rfl, rfl⟩) rfl (yl_len es25 rfl) ?_
            refine WL.val (.inr ⟨_, _, _, rfl, rfl, rfl⟩) rfl (yl_gt rfl rfl) ?_
            rw [int_lt0]
            exact Got.intro 4 rfl rfl rfl
          refine WL.val (.inl rfl) rfl (yl_move rfl) ?_
          apply WL.and 6 rfl rfl rfl rfl (.inl rfl) rfl rfl rfl rfl rfl
          ·
            intro hg2
            refine WL.val (.inr ⟨_, _, _, rfl, rfl, rfl⟩) rfl (yl_fa fo43_4 rfl) ?_
            refine WL.val (.inr ⟨_, _, _, rfl, rfl, rfl⟩) rfl (yl_ldk 0 rfl rfl rfl na25) ?_
            refine WL.val (.inr ⟨_, _, _, rfl, rfl, rfl⟩) rfl (yl_move rfl) ?_
            refine WL.val (.inr ⟨_, _, _, rfl, rfl, rfl⟩) rfl (yl_move rfl) ?_
            refine WL.val (.inr ⟨_, _, _, rfl, rfl, rfl⟩) rfl (yl_inc rfl rfl rfl (by omega)) ?_
            refine WL.callp (.inr ⟨_, _, _, rfl, rfl, rfl⟩) rfl en41 rfl (fun w hw => hB x.body a2 n2 (d + 1) w (hw.vs _ (by simp)) (by omega) hs2) ?_
            exact Got.intro 6 rfl rfl rfl
          refine WL.val (.inl rfl) rfl (yl_move rfl) ?_
          apply WL.or 12 rfl rfl rfl rfl (.inl rfl) rfl rfl rfl rfl rfl
          ·
            intro hg3
            refine WL.val (.inr ⟨_, _, _, rfl, rfl, rfl⟩) rfl (yl_fa fo43_5 rfl) ?_
            refine WL.val (.inr ⟨_, _, _, rfl, rfl, rfl⟩) rfl (yl_ldk 0 rfl rfl rfl na25) ?_
            refine WL.val (.inr ⟨_, _, _, rfl, rfl, rfl⟩) rfl (yl_len es25 rfl) ?_
            refine WL.val (.inr ⟨_, _, _, rfl, rfl, rfl⟩) rfl (yl_gt rfl rfl) ?_
            rw [int_lt0]
            refine WL.val (.inr ⟨_, _, _, rfl, rfl, rfl⟩) rfl (yl_move rfl) ?_
            apply WL.and 6 rfl rfl rfl rfl (.inr ⟨_, _, _, rfl, rfl, rfl⟩) rfl rfl rfl rfl rfl
            ·
              intro hg4
              refine WL.val (.inr ⟨_, _, _, rfl, rfl, rfl⟩) rfl (yl_fa fo43_5 rfl) ?_
              refine WL.val (.inr ⟨_, _, _, rfl, rfl, rfl⟩) rfl (yl_ldk 0 rfl rfl rfl na25) ?_
              refine WL.val (.inr ⟨_, _, _, rfl, rfl, rfl⟩) rfl (yl_move rfl) ?_
              refine WL.val (.inr ⟨_, _, _, rfl, rfl, rfl⟩) rfl (yl_move rfl) ?_
              refine WL.val (.inr ⟨_, _, _, rfl, rfl, rfl⟩) rfl (yl_inc rfl rfl rfl (by omega)) ?_
              refine WL.callp (.inr ⟨_, _, _, rfl, rfl, rfl⟩) rfl en41 rfl (fun w hw => hB x.other a3 n3 (d + 1) w (hw.vs _ (by simp)) (by omega) hs3) ?_
              exact Got.intro 6 rfl rfl rfl
            exact Got.intro 6 rfl rfl rfl
          refine WL.val (.inl rfl) rfl (yl_assign rfl) ?_
          refine WL.nil (WE.then_normal (WC.ret ?_))
          refine WE.ret1 rfl rfl fun w' hw => ?_
          exact ⟨by rw [hE, hno, hnn]; rfl, hw.fr⟩
    ·
      have hl2 : ¬ lv = 2 := by simp at hc2; omega
      refine WC.seq (WC.region ?_)
      refine WL.val (.inl rfl) rfl (yl_eq rfl rfl) ?_
      refine WL.val (.inl rfl) rfl (yl_assign rfl) ?_
      refine WL.nil (WE.then_normal ?_)
      refine WC.cond rfl (fun hc4 => ?_) (fun hc4 => ?_)
      ·
        have hl : lv = 3 := by simp at hc4; omega
        subst hl
        refine WC.seq ?_
        refine WC.draws0 [(0, true), (1, true), (2, false), (3, true), (4, true), (5, true), (6, true), (7, true), (8, false), (9, true), (10, true), (11, true), (12, true), (13, true), (14, false), (15, true), (16, true), (17, true), (18, true), (19, true), (20, true), (21, true), (22, true), (23, true), (24, true), (25, true), (26, true), (27, true), (28, true), (29, true), (30, false), (31, true), (32, true), (33, true), (34, true), (35, true), (36, true), (37, true), (38, false), (39, true), (40, true), (41, true), (42, true), (43, true), (44, true), (45, true), (46, true), (47, true), (48, true), (49, true), (50, true), (51, true), (52, true), (53, true), (54, true), (55, true), (56, true), (57, true), (58, true), (59, true), (60, true), (61, true), (62, true), (63, true), (64, true), (65, true), (66, true), (67, true), (68, true)] mixed (by kernel_rfl) (fun _ _ _ d _ h => by cases d <;> exact h) ?_
        refine WD.q rfl (.inl rfl) rfl (fun _ h => h) (yl_fa fo43_0 rfl) ?_
        refine WD.q rfl (.inl rfl) rfl (fun _ h => h) (yl_ldk 0 rfl rfl rfl na3) ?_
        refine WD.e rfl (fun _ h => h) ?_
        refine WL.callp (.inl rfl) rfl en88 rfl (fun w hw => stmtRef_any _ w) ?_
        refine WL.nil (WE.toD ?_)
        refine WD.q rfl (.inl rfl) rfl (fun _ h => h) (yl_move rfl) ?_
        apply WD.and 6 rfl rfl rfl rfl rfl (.inl rfl) rfl (fun _ h => h) rfl rfl rfl rfl
        ·
          intro hg5
          refine WD.q rfl (.inr ⟨_, _, _, rfl, rfl, rfl⟩) rfl (fun _ h => h) (yl_fa fo43_1 rfl) ?_
          refine WD.q rfl (.inr ⟨_, _, _, rfl, rfl, rfl⟩) rfl (fun _ h => h) (yl_ldk 0 rfl rfl rfl na9) ?_
          refine WD.q rfl (.inr ⟨_, _, _, rfl, rfl, rfl⟩) rfl (fun _ h => h) (yl_fa fo43_2 rfl) ?_
          refine WD.q rfl (.inr ⟨_, _, _, rfl, rfl, rfl⟩) rfl (fun _ h => h) (yl_ldk 0 rfl rfl rfl na9) ?_
          refine WD.e rfl (fun _ h => h) ?_
          refine WL.callp (.inr ⟨_, _, _, rfl, rfl, rfl⟩) rfl en89 rfl (fun w hw => refFine_any _ _ w) ?_
          refine WL.nil (WE.toD ?_)
          refine WD.q rfl (.inr ⟨_, _, _, rfl, rfl, rfl⟩) rfl (fun _ h => h) (yl_not rfl) ?_
          exact GotD.intro 6 (fun _ h => h) rfl rfl rfl
        refine WD.q rfl (.inl rfl) rfl (fun _ h => h) (yl_move rfl) ?_
        apply WD.or 14 (x := (!within_ x.op 1 3 && (!(x.mod == []) || !(x.nm == [])))) rfl rfl rfl rfl rfl (.inl rfl) rfl (fun _ h => h) rfl rfl rfl rfl
        ·
          intro hg6
          refine WD.q rfl (.inr ⟨_, _, _, rfl, rfl, rfl⟩) rfl (fun _ h => h) (yl_fa fo43_0 rfl) ?_
          refine WD.q rfl (.inr ⟨_, _, _, rfl, rfl, rfl⟩) rfl (fun _ h => h) (yl_ldk 0 rfl rfl rfl na3) ?_
          refine WD.e rfl (fun _ h => h) ?_
          refine WL.callp (.inr ⟨_, _, _, rfl, rfl, rfl⟩) rfl en88 rfl (fun w hw => stmtRef_any _ w) ?_
          refine WL.nil (WE.toD ?_)
          refine WD.q rfl (.inr ⟨_, _, _, rfl, rfl, rfl⟩) rfl (fun _ h => h) (yl_not rfl) ?_
          refine WD.q rfl (.inr ⟨_, _, _, rfl, rfl, rfl⟩) rfl (fun _ h => h) (yl_move rfl) ?_
          apply WD.and 8 rfl rfl rfl rfl rfl (.inr ⟨_, _, _, rfl, rfl, rfl⟩) rfl (fun _ h => h) rfl rfl rfl rfl
          ·
            intro hg7
            refine WD.q rfl (.inr ⟨_, _, _, rfl, rfl, rfl⟩) rfl (fun _ h => h) (yl_fa fo43_1 rfl) ?_
            refine WD.q rfl (.inr ⟨_, _, _, rfl, rfl, rfl⟩) rfl (fun _ h => h) (yl_ldk 0 rfl rfl rfl na9) ?_
            refine WD.q rfl (.inr ⟨_, _, _, rfl, rfl, rfl⟩) rfl (fun _ h => h) (yl_nes rfl rfl) ?_
            refine WD.q rfl (.inr ⟨_, _, _, rfl, rfl, rfl⟩) rfl (fun _ h => h) (yl_move rfl) ?_
            apply WD.or 3 rfl rfl rfl rfl rfl (.inr ⟨_, _, _, rfl, rfl, rfl⟩) rfl (fun _ h => h) rfl rfl rfl rfl
            ·
              intro hg8
              refine WD.q rfl (.inr ⟨_, _, _, rfl, rfl, rfl⟩) rfl (fun _ h => h) (yl_fa fo43_2 rfl) ?_
              refine WD.q rfl (.inr ⟨_, _, _, rfl, rfl, rfl⟩) rfl (fun _ h => h) (yl_ldk 0 rfl rfl rfl na9) ?_
              refine WD.q rfl (.inr ⟨_, _, _, rfl, rfl, rfl⟩) rfl (fun _ h => h) (yl_nes rfl rfl) ?_
              exact GotD.intro 3 (fun _ h => h) rfl rfl rfl
            exact GotD.intro 5 (fun _ h => h) rfl rfl rfl
          exact GotD.intro 6 (fun _ h => h) rfl rfl rfl
        refine WD.q rfl (.inl rfl) rfl (fun _ h => h) (yl_move rfl) ?_
        apply WD.or 13 rfl rfl rfl rfl rfl (.inl rfl) rfl (fun _ h => h) rfl rfl rfl rfl
        ·
          intro hg9
          refine WD.q rfl (.inr ⟨_, _, _, rfl, rfl, rfl⟩) rfl (fun _ h => h) (yl_fa fo43_0 rfl) ?_
          refine WD.q rfl (.inr ⟨_, _, _, rfl, rfl, rfl⟩) rfl (fun _ h => h) (yl_ldk 0 rfl rfl rfl na3) ?_
          refine WD.e rfl (fun _ h => h) ?_
          refine WL.callp (.inr ⟨_, _, _, rfl, rfl, rfl⟩) rfl en90 rfl (fun w hw => stmtArgs_any _ w) ?_
          refine WL.nil (WE.toD ?_)
          refine WD.q rfl (.inr ⟨_, _, _, rfl, rfl, rfl⟩) rfl (fun _ h => h) (yl_ge rfl rfl) ?_
          refine WD.q rfl (.inr ⟨_, _, _, rfl, rfl, rfl⟩) rfl (fun _ h => h) (yl_move rfl) ?_
          apply WD.and 7 rfl rfl rfl rfl rfl (.inr ⟨_, _, _, rfl, rfl, rfl⟩) rfl (fun _ h => h) rfl rfl rfl rfl
          ·
            intro hg10
            refine WD.q rfl (.inr ⟨_, _, _, rfl, rfl, rfl⟩) rfl (fun _ h => h) (yl_fa fo43_3 rfl) ?_
            refine WD.q rfl (.inr ⟨_, _, _, rfl, rfl, rfl⟩) rfl (fun _ h => h) (yl_ldk 0 rfl rfl rfl na41) ?_
            refine WD.q rfl (.inr ⟨_, _, _, rfl, rfl, rfl⟩) rfl (fun _ h => h) (yl_len es41 rfl) ?_
            refine WD.q rfl (.inr ⟨_, _, _, rfl, rfl, rfl⟩) rfl (fun _ h => h) (yl_fa fo43_0 rfl) ?_
            refine WD.q rfl (.inr ⟨_, _, _, rfl, rfl, rfl⟩) rfl (fun _ h => h) (yl_ldk 0 rfl rfl rfl na3) ?_
            refine WD.e rfl (fun _ h => h) ?_
            refine WL.callp (.inr ⟨_, _, _, rfl, rfl, rfl⟩) rfl en90 rfl (fun w hw => stmtArgs_any _ w) ?_
            refine WL.nil (WE.toD ?_)
            refine WD.q rfl (.inr ⟨_, _, _, rfl, rfl, rfl⟩) rfl (fun _ h => h) (yl_ne rfl rfl) ?_
            exact GotD.intro 7 (fun _ h => h) rfl rfl rfl
          exact GotD.intro 6 (fun _ h => h) rfl rfl rfl
        refine WD.q rfl (.inl rfl) rfl (fun _ h => h) (yl_move rfl) ?_
        apply WD.or 14 (x := ((!(x.op == 4) && !(x.op == 5)) && decide (0 < x.body.length))) rfl rfl rfl rfl rfl (.inl rfl) rfl (fun _ h => h) rfl rfl rfl rfl
        ·
          intro hg11
          refine WD.q rfl (.inr ⟨_, _, _, rfl, rfl, rfl⟩) rfl (fun _ h => h) (yl_fa fo43_0 rfl) ?_
          refine WD.q rfl (.inr ⟨_, _, _, rfl, rfl, rfl⟩) rfl (fun _ h => h) (yl_ldk 0 rfl rfl rfl na3) ?_
          refine WD.q rfl (.inr ⟨_, _, _, rfl, rfl, rfl⟩) rfl (fun _ h => h) (yl_ne rfl rfl) ?_
          refine WD.q rfl (.inr ⟨_, _, _, rfl, rfl, rfl⟩) rfl (fun _ h => h) (yl_move rfl) ?_
          apply WD.and 3 rfl rfl rfl rfl rfl (.inr ⟨_, _, _, rfl, rfl, rfl⟩) rfl (fun _ h => h) rfl rfl rfl rfl
          ·
            intro hg12
            refine WD.q rfl (.inr ⟨_, _, _, rfl, rfl, rfl⟩) rfl (fun _ h => h) (yl_fa fo43_0 rfl) ?_
            refine WD.q rfl (.inr ⟨_, _, _, rfl, rfl, rfl⟩) rfl (fun _ h => h) (yl_ldk 0 rfl rfl rfl na3) ?_
            refine WD.q rfl (.inr ⟨_, _, _, rfl, rfl, rfl⟩) rfl (fun _ h => h) (yl_ne rfl rfl) ?_
            exact GotD.intro 3 (fun _ h => h) rfl rfl rfl
          refine WD.q rfl (.inr ⟨_, _, _, rfl, rfl, rfl⟩) rfl (fun _ h => h) (yl_move rfl) ?_
          apply WD.and 4 rfl rfl rfl rfl rfl (.inr ⟨_, _, _, rfl, rfl, rfl⟩) rfl (fun _ h => h) rfl rfl rfl rfl
          ·
            intro hg13
            refine WD.q rfl (.inr ⟨_, _, _, rfl, rfl, rfl⟩) rfl (fun _ h => h) (yl_fa fo43_4 rfl) ?_
            refine WD.q rfl (.inr ⟨_, _, _, rfl, rfl, rfl⟩) rfl (fun _ h => h) (yl_ldk 0 rfl rfl rfl na25) ?_
            refine WD.q rfl (.inr ⟨_, _, _, rfl, rfl, rfl⟩) rfl (fun _ h => h) (yl_len es25 rfl) ?_
            refine WD.q rfl (.inr ⟨_, _, _, rfl, rfl, rfl⟩) rfl (fun _ h => h) (yl_gt rfl rfl) ?_
            rw [int_lt0]
            exact GotD.intro 4 (fun _ h => h) rfl rfl rfl
          exact GotD.intro 7 (fun _ h => h) rfl rfl rfl
        refine WD.q rfl (.inl rfl) rfl (fun _ h => h) (yl_move rfl) ?_
        apply WD.or 9 rfl rfl rfl rfl rfl (.inl rfl) rfl (fun _ h => h) rfl rfl rfl rfl
        ·
          intro hg14
          refine WD.q rfl (.inr ⟨_, _, _, rfl, rfl, rfl⟩) rfl (fun _ h => h) (yl_fa fo43_0 rfl) ?_
          refine WD.q rfl (.inr ⟨_, _, _, rfl, rfl, rfl⟩) rfl (fun _ h => h) (yl_ldk 0 rfl rfl rfl na3) ?_
          refine WD.q rfl (.inr ⟨_, _, _, rfl, rfl, rfl⟩) rfl (fun _ h => h) (yl_ne rfl rfl) ?_
          refine WD.q rfl (.inr ⟨_, _, _, rfl, rfl, rfl⟩) rfl (fun _ h => h) (yl_move rfl) ?_
          apply WD.and 4 rfl rfl rfl rfl rfl (.inr ⟨_, _, _, rfl, rfl, rfl⟩) rfl (fun _ h => h) rfl rfl rfl rfl
          ·
            intro hg15
            refine WD.q rfl (.inr ⟨_, _, _, rfl, rfl, rfl⟩) rfl (fun _ h => h) (yl_fa fo43_5 rfl) ?_
            refine WD.q rfl (.inr ⟨_, _, _, rfl, rfl, rfl⟩) rfl (fun _ h => h) (yl_ldk 0 rfl rfl rfl na25) ?_
            refine WD.q rfl (.inr ⟨_, _, _, rfl, rfl, rfl⟩) rfl (fun _ h => h) (yl_len es25 rfl) ?_
            refine WD.q rfl (.inr ⟨_, _, _, rfl, rfl, rfl⟩) rfl (fun _ h => h) (yl_gt rfl rfl) ?_
            rw [int_lt0]
            exact GotD.intro 4 (fun _ h => h) rfl rfl rfl
          exact GotD.intro 5 (fun _ h => h) rfl rfl rfl
        refine WD.nil (fun _ h => h) ?_
        refine WE.then_normal ?_
        refine WC.cond rfl (fun hc5 => ?_) (fun hc5 => ?_)
        ·
          have hy : lvS 3 x.op x.mod x.nm x.args.length x.body.length x.other.length = true := hc5
          refine WC.seq (WC.region ?_)
          refine WL.val (.inl rfl) rfl (yl_assign rfl) ?_
          refine WL.nil (WE.then_normal (WC.ret (WE.block_ret (WE.then_ret ?_))))
          refine WE.ret1 rfl rfl fun w' hw => ?_
          exact ⟨by rw [hE, hy]; rfl, hw.fr⟩
        ·
          have hno : lvS 3 x.op x.mod x.nm x.args.length x.body.length x.other.length = false := hc5
          refine WC.skip (WE.block_normal (WE.then_normal (WC.seq (WC.seq (WC.region ?_)))))
          refine WL.val (.inl rfl) rfl (yl_assign rfl) ?_
          refine WL.nil (WE.then_normal (WC.block ?_))
          refine WC.loopW (ι := Nat) (fun i => [(7, .int .i64 (i : Int))]) [(1, _), (2, _), (3, _)] (fun i => i ≤ x.args.length ∧ ∀ j y, j < i → x.args[j]? = some y → lookE y 3 1 = false) (fun i => x.args.length - i) 0 ⟨Nat.zero_le _, by simp⟩ (sc rfl (sc rfl (sc rfl (sc rfl sn)))) ?_
          intro i ⟨hi, hall⟩
          refine WC.seq (WC.seq (WC.region ?_))
          refine WL.val (.inl rfl) rfl (yl_move rfl) ?_
          refine WL.val (.inl rfl) rfl (yl_fa fo43_3 rfl) ?_
          refine WL.val (.inl rfl) rfl (yl_ldk 0 rfl rfl rfl na41) ?_
          refine WL.val (.inl rfl) rfl (yl_len es41 rfl) ?_
          refine WL.val (.inl rfl) rfl (yl_lt rfl rfl) ?_
          refine WL.nil (WE.then_normal ?_)
          refine WC.cond rfl (fun hc6 => ?_) (fun hc6 => ?_)
          ·
            have hlt : i < x.args.length := by simpa using hc6
            obtain ⟨y, hyi⟩ : ∃ q, x.args[i]? = some q := ⟨_, List.getElem?_eq_getElem hlt⟩
            obtain ⟨pby, poy, hay, hry⟩ := hs1.elt i y hyi
            obtain ⟨k2, rfl⟩ : ∃ k2, ke = k2 + 1 := by
              cases ke with
              | zero => exact hry.elim
              | succ k2 => exact ⟨k2, rfl⟩
            obtain ⟨ya, yn, hrow, hsub⟩ := hry
            refine WC.skip (WE.then_normal (WC.seq (WC.block (WC.seq (WC.region ?_)))))
            refine WL.val (.inl rfl) rfl (yl_fa fo43_3 rfl) ?_
            refine WL.val (.inl rfl) rfl (yl_ldk 0 rfl rfl rfl na41) ?_
            refine WL.val (.inl rfl) rfl (yl_move rfl) ?_
            refine WL.val (.inl rfl) rfl (yl_iao es41 rfl rfl hay (by omega)) ?_
            refine WL.val (.inl rfl) rfl (yl_lda 0 ag81 rfl rfl rfl (hrow)) ?_
            refine WL.val (.inl rfl) rfl (yl_move rfl) ?_
            refine WL.callp (.inl rfl) rfl en91 rfl (fun w hw => exprLook_any H k2 y ya yn _ 1 w (hw.vs _ (by simp)) hlv (by omega) hsub) ?_
            refine WL.nil (WE.then_normal ?_)
            refine WC.cond rfl (fun hc7 => ?_) (fun hc7 => ?_)
            ·
              refine WC.seq (WC.region ?_)
              refine WL.val (.inl rfl) rfl (yl_assign rfl) ?_
              refine WL.nil (WE.then_normal (WC.ret (WE.block_ret (WE.then_ret (WE.then_ret ?_)))))
              refine WE.block_ret (WE.then_ret ?_)
              refine WE.ret1 rfl rfl fun w' hw => ?_
              exact ⟨by rw [hE, lookEs_any, any_at hyi hc7, Bool.or_true, Bool.true_or], hw.fr⟩
            ·
              refine WC.skip (WE.block_normal (WE.then_normal (WC.region ?_)))
              refine WL.val (.inl rfl) rfl (yl_move rfl) ?_
              refine WL.val (.inl rfl) rfl (yl_inc rfl rfl rfl (by omega)) ?_
              refine WL.val (.inl rfl) rfl (yl_assign rfl) ?_
              refine WL.nil ?_
              exact WE.again (i + 1) (by omega) ⟨by omega, fun j z hj hz => by rcases Nat.lt_succ_iff_lt_or_eq.1 hj with h | rfl; exact hall j z h hz; rw [hyi] at hz; injection hz with hz; subst hz; exact hc7⟩ (sc rfl (sc rfl (sc rfl (sc rfl sn)))) (fun _ h => h)
          ·
            have hge : ¬ i < x.args.length := by simpa using hc6
            have hnn : lookEs x.args 3 1 = false := by rw [lookEs_any]; exact any_false fun j y hj => hall j y (by have := (List.getElem?_eq_some_iff.1 hj).1; omega) hj
            refine WC.exit (WE.then_exit (WE.then_exit (WE.block_hit (WE.then_normal (WC.seq ?_)))))
            refine WC.region ?_
            refine WL.val (.inl rfl) rfl (yl_fa fo43_0 rfl) ?_
            refine WL.val (.inl rfl) rfl (yl_ldk 0 rfl rfl rfl na3) ?_
            refine WL.val (.inl rfl) rfl (yl_eq rfl rfl) ?_
            refine WL.val (.inl rfl) rfl (yl_move rfl) ?_
            apply WL.or 3 rfl rfl rfl rfl (.inl rfl) rfl rfl rfl rfl rfl
            ·
              intro hg0
              refine WL.val (.inr ⟨_, _, _, rfl, rfl, rfl⟩) rfl (yl_fa fo43_0 rfl) ?_
              refine WL.val (.inr ⟨_, _, _, rfl, rfl, rfl⟩) rfl (yl_ldk 0 rfl rfl rfl na3) ?_
              refine WL.val (.inr ⟨_, _, _, rfl, rfl, rfl⟩) rfl (yl_eq rfl rfl) ?_
              exact Got.intro 3 rfl rfl rfl
            refine WL.val (.inl rfl) rfl (yl_assign rfl) ?_
            refine WL.nil (WE.then_normal (WC.seq (WC.region ?_)))
            refine WL.val (.inl rfl) rfl (yl_move rfl) ?_
            refine WL.val (.inl rfl) rfl (yl_move rfl) ?_
            apply WL.or 4 rfl rfl rfl rfl (.inl rfl) rfl rfl rfl rfl rfl
            ·
              intro hg1
              refine WL.val (.inr ⟨_, _, _, rfl, rfl, rfl⟩) rfl (yl_fa fo43_4 rfl) ?_
              refine WL.val (.inr ⟨_, _, _, rfl, rfl, rfl⟩) rfl (yl_ldk 0 rfl rfl rfl na25) ?_
              refine WL.val (.inr ⟨_, _, _, rfl, rfl, rfl⟩) rfl (yl_len es25 rfl) ?_
              refine WL.val (.inr ⟨_, _, _, rfl, rfl, rfl⟩) rfl (yl_gt rfl rfl) ?_
              rw [int_lt0]
              exact Got.intro 4 rfl rfl rfl
            refine WL.val (.inl rfl) rfl (yl_move rfl) ?_
            apply WL.and 6 rfl rfl rfl rfl (.inl rfl) rfl rfl rfl rfl rfl
            ·
              intro hg2
              refine WL.val (.inr ⟨_, _, _, rfl, rfl, rfl⟩) rfl (yl_fa fo43_4 rfl) ?_
              refine WL.val (.inr ⟨_, _, _, rfl, rfl, rfl⟩) rfl (yl_ldk 0 rfl rfl rfl na25) ?_
              refine WL.val (.inr ⟨_, _, _, rfl, rfl, rfl⟩) rfl (yl_move rfl) ?_
              refine WL.val (.inr ⟨_, _, _, rfl, rfl, rfl⟩) rfl (yl_move rfl) ?_
              refine WL.val (.inr ⟨_, _, _, rfl, rfl, rfl⟩) rfl (yl_inc rfl rfl rfl (by omega)) ?_
              refine WL.callp (.inr ⟨_, _, _, rfl, rfl, rfl⟩) rfl en41 rfl (fun w hw => hB x.body a2 n2 (d + 1) w (hw.vs _ (by simp)) (by omega) hs2) ?_
              exact Got.intro 6 rfl rfl rfl
            refine WL.val (.inl rfl) rfl (yl_move rfl) ?_
            apply WL.or 12 rfl rfl rfl rfl (.inl rfl) rfl rfl rfl rfl rfl
            ·
              intro hg3
              refine WL.val (.inr ⟨_, _, _, rfl, rfl, rfl⟩) rfl (yl_fa fo43_5 rfl) ?_
              refine WL.val (.inr ⟨_, _, _, rfl, rfl, rfl⟩) rfl (yl_ldk 0 rfl rfl rfl na25) ?_
              refine WL.val (.inr ⟨_, _, _, rfl, rfl, rfl⟩) rfl (yl_len es25 rfl) ?_
              refine WL.val (.inr ⟨_, _, _, rfl, rfl, rfl⟩) rfl (yl_gt rfl rfl) ?_
              rw [int_lt0]
              refine WL.val (.inr ⟨_, _, _, rfl, rfl, rfl⟩) rfl (yl_move rfl) ?_
              apply WL.and 6 rfl rfl rfl rfl (.inr ⟨_, _, _, rfl, rfl, rfl⟩) rfl rfl rfl rfl rfl
              ·
                intro hg4
                refine WL.val (.inr ⟨_, _, _, rfl, rfl, rfl⟩) rfl (yl_fa fo43_5 rfl) ?_
                refine WL.val (.inr ⟨_, _, _, rfl, rfl, rfl⟩) rfl (yl_ldk 0 rfl rfl rfl na25) ?_
                refine WL.val (.inr ⟨_, _, _, rfl, rfl, rfl⟩) rfl (yl_move rfl) ?_
                refine WL.val (.inr ⟨_, _, _, rfl, rfl, rfl⟩) rfl (yl_move rfl) ?_
                refine WL.val (.inr ⟨_, _, _, rfl, rfl, rfl⟩) rfl (yl_inc rfl rfl rfl (by omega)) ?_
                refine WL.callp (.inr ⟨_, _, _, rfl, rfl, rfl⟩) rfl en41 rfl (fun w hw => hB x.other a3 n3 (d + 1) w (hw.vs _ (by simp)) (by omega) hs3) ?_
                exact Got.intro 6 rfl rfl rfl
              exact Got.intro 6 rfl rfl rfl
            refine WL.val (.inl rfl) rfl (yl_assign rfl) ?_
            refine WL.nil (WE.then_normal (WC.ret ?_))
            refine WE.ret1 rfl rfl fun w' hw => ?_
            exact ⟨by rw [hE, hno, hnn]; rfl, hw.fr⟩
      ·
        exact (show False by simp at hc4; omega).elim
theorem blockLook_any (H : View) (ke lv : Nat) (hlv : 1 ≤ lv ∧ lv ≤ 3) (k : Nat) (l : List TStmt) (a : Option Addr) (n d : Nat) (w : World) (hH : Le H w) (hd0 : d ≤ 7) (hm : Sl (RdS ke k) 6 H a n l) :
    Calls Tryz.prog 41 #[.slice a l.length n, .int .i64 (lv : Int), .int .i64 (d : Int)] w fun e w' => e = .returned (.bool (lookB l lv d)) ∧ Ext w w' := by
  induction k using Nat.strongRecOn generalizing l a n d w
  rename_i k ih
  have hcap := hm.cap
  have hmax := hm.max
  refine enter Tryz.func41 rfl 32 rfl rfl ?_
  refine WC.world (W' := Ws w [] [] [H]) (fun _ e => by subst e; exact Ws.init (by simp [hH])) ?_
  refine WC.seq (WC.region ?_)
  refine WL.val (.inl rfl) rfl (yl_assign rfl) ?_
  refine WL.nil (WE.then_normal (WC.seq (WC.seq (WC.region ?_))))
  refine WL.val (.inl rfl) rfl (yl_move rfl) ?_
  refine WL.val (.inl rfl) rfl (yl_gt rfl rfl) ?_
  refine WL.nil (WE.then_normal ?_)
  refine WC.cond rfl (fun hc0 => ?_) (fun hc0 => ?_)
  ·
    have hd : 6 < d := by simp at hc0; omega
    refine WC.seq (WC.region ?_)
    refine WL.val (.inl rfl) rfl (yl_move rfl) ?_
    refine WL.val (.inl rfl) rfl (yl_eq rfl rfl) ?_
    rw [show ((lv : Int) == 2) = (lv == 2) from lv_eq lv 2]
    refine WL.val (.inl rfl) rfl (yl_assign rfl) ?_
    refine WL.nil (WE.then_normal (WC.ret (WE.then_ret ?_)))
    refine WE.ret1 rfl rfl fun w' hw => ?_
    exact ⟨by unfold lookB blkL; rw [if_pos hd], hw.fr⟩
  ·
    have hd : ¬ 6 < d := by simp at hc0; omega
    have hE := lookB_no (l := l) (lv := lv) hd
    refine WC.skip (WE.then_normal (WC.seq (WC.seq (WC.region ?_))))
    refine WL.val (.inl rfl) rfl (yl_move rfl) ?_
    refine WL.val (.inl rfl) rfl (yl_eq rfl rfl) ?_
    rw [show ((lv : Int) == 2) = (lv == 2) from lv_eq lv 2]
    refine WL.val (.inl rfl) rfl (yl_move rfl) ?_
    apply WL.and 3 rfl rfl rfl rfl (.inl rfl) rfl rfl rfl rfl rfl
    ·
      intro hg0
      refine WL.val (.inr ⟨_, _, _, rfl, rfl, rfl⟩) rfl (yl_move rfl) ?_
      refine WL.val (.inr ⟨_, _, _, rfl, rfl, rfl⟩) rfl (yl_len es25 rfl) ?_
      refine WL.val (.inr ⟨_, _, _, rfl, rfl, rfl⟩) rfl (yl_gt rfl rfl) ?_
      rw [int_lt10]
      exact Got.intro 3 rfl rfl rfl
    refine WL.nil (WE.then_normal ?_)
    refine WC.cond rfl (fun hc1 => ?_) (fun hc1 => ?_)
    ·
      refine WC.seq (WC.region ?_)
      refine WL.val (.inl rfl) rfl (yl_assign rfl) ?_
      refine WL.nil (WE.then_normal (WC.ret (WE.then_ret ?_)))
      refine WE.ret1 rfl rfl fun w' hw => ?_
      exact ⟨by rw [hE, hc1]; rfl, hw.fr⟩
    ·
      refine WC.skip (WE.then_normal (WC.seq (WC.seq (WC.region ?_))))
      refine WL.val (.inl rfl) rfl (yl_assign rfl) ?_
      refine WL.nil (WE.then_normal (WC.block ?_))
      refine WC.loopW (ι := Nat) (fun i => [(7, .int .i64 (i : Int))]) [(0, _), (1, _), (2, _)] (fun i => i ≤ l.length ∧ ∀ j y, j < i → l[j]? = some y → lookS y lv d = false) (fun i => l.length - i) 0 ⟨Nat.zero_le _, by simp⟩ (sc rfl (sc rfl (sc rfl (sc rfl sn)))) ?_
      intro i ⟨hi, hall⟩
      refine WC.seq (WC.seq (WC.region ?_))
      refine WL.val (.inl rfl) rfl (yl_move rfl) ?_
      refine WL.val (.inl rfl) rfl (yl_move rfl) ?_
      refine WL.val (.inl rfl) rfl (yl_len es25 rfl) ?_
      refine WL.val (.inl rfl) rfl (yl_lt rfl rfl) ?_
      refine WL.nil (WE.then_normal ?_)
      refine WC.cond rfl (fun hc2 => ?_) (fun hc2 => ?_)
      ·
        have hlt : i < l.length := by simpa using hc2
        obtain ⟨y, hyi⟩ : ∃ q, l[i]? = some q := ⟨_, List.getElem?_eq_getElem hlt⟩
        obtain ⟨pby, poy, hay, hry⟩ := hm.elt i y hyi
        obtain ⟨k2, rfl⟩ : ∃ k2, k = k2 + 1 := by
          cases k with
          | zero => exact hry.elim
          | succ k2 => exact ⟨k2, rfl⟩
        obtain ⟨ya, yn, y2, m2, y3, m3, hrow, hs1, hs2, hs3⟩ := hry
        refine WC.skip (WE.then_normal (WC.seq (WC.block (WC.seq (WC.region ?_)))))
        refine WL.val (.inl rfl) rfl (yl_move rfl) ?_
        refine WL.val (.inl rfl) rfl (yl_move rfl) ?_
        refine WL.val (.inl rfl) rfl (yl_iao es25 rfl rfl hay (by omega)) ?_
        refine WL.val (.inl rfl) rfl (yl_lda 0 ag43 rfl rfl rfl (hrow)) ?_
        refine WL.val (.inl rfl) rfl (yl_move rfl) ?_
        refine WL.val (.inl rfl) rfl (yl_move rfl) ?_
        refine WL.callp (.inl rfl) rfl en70 rfl (fun w hw => stmtLook_any H ke k2 y ya yn y2 m2 y3 m3 lv d w (hw.vs _ (by simp)) hlv (by omega) (fun l a n d w h1 h2 h3 => ih k2 (by omega) l a n d w h1 h2 h3) hs1 hs2 hs3) ?_
        refine WL.nil (WE.then_normal ?_)
        refine WC.cond rfl (fun hc3 => ?_) (fun hc3 => ?_)
        ·
          refine WC.seq (WC.region ?_)
          refine WL.val (.inl rfl) rfl (yl_assign rfl) ?_
          refine WL.nil (WE.then_normal (WC.ret (WE.block_ret (WE.then_ret (WE.then_ret ?_)))))
          refine WE.block_ret (WE.then_ret ?_)
          refine WE.ret1 rfl rfl fun w' hw => ?_
          exact ⟨by rw [hE, lookSs_any, any_at hyi hc3, Bool.or_true], hw.fr⟩
        ·
          refine WC.skip (WE.block_normal (WE.then_normal (WC.region ?_)))
          refine WL.val (.inl rfl) rfl (yl_move rfl) ?_
          refine WL.val (.inl rfl) rfl (yl_inc rfl rfl rfl (by omega)) ?_
          refine WL.val (.inl rfl) rfl (yl_assign rfl) ?_
          refine WL.nil ?_
          exact WE.again (i + 1) (by omega) ⟨by omega, fun j z hj hz => by rcases Nat.lt_succ_iff_lt_or_eq.1 hj with h | rfl; exact hall j z h hz; rw [hyi] at hz; injection hz with hz; subst hz; exact hc3⟩ (sc rfl (sc rfl (sc rfl (sc rfl sn)))) (fun _ h => h)
      ·
        have hge : ¬ i < l.length := by simpa using hc2
        have hnn : lookSs l lv d = false := by rw [lookSs_any]; exact any_false fun j y hj => hall j y (by have := (List.getElem?_eq_some_iff.1 hj).1; omega) hj
        refine WC.exit (WE.then_exit (WE.then_exit (WE.block_hit (WE.then_normal (WC.seq ?_)))))
        refine WC.region ?_
        refine WL.val (.inl rfl) rfl (yl_assign rfl) ?_
        refine WL.nil (WE.then_normal (WC.ret ?_))
        refine WE.ret1 rfl rfl fun w' hw => ?_
        exact ⟨by rw [hE, hc1, hnn]; rfl, hw.fr⟩
theorem moduleLook_any (H : View) (ke ks : Nat) (r : MAt) (m : TMod) (lv : Nat) (w : World) (hlv : 1 ≤ lv ∧ lv ≤ 3) (hH : Le H w) (hm : RdM ke ks H r m) (hb : wM m ≤ 109951162777) :
    Calls Tryz.prog 23 #[.agg (modV m r).toArray, .int .i64 (lv : Int)] w fun e w' => e = .returned (.bool (modL m lv)) ∧ Ext w w' := by
  have cu := hm.uses.cap
  have xu := hm.uses.max
  have cd := hm.decls.cap
  have xd := hm.decls.max
  have cp := hm.procs.cap
  have xp := hm.procs.max
  have hwM : wM m = 1 + m.nm.length + wN m.uses + wD m.decls + wP m.procs + wSs m.main := rfl
  refine enter Tryz.func23 rfl 189 rfl rfl ?_
  refine WC.world (W' := Ws w [] [] [H]) (fun _ e => by subst e; exact Ws.init (by simp [hH])) ?_
  refine WC.seq (WC.region ?_)
  refine WL.box (.inl rfl) rfl rfl fun b2 => ?_
  refine WL.val (.inl rfl) rfl (yl_assign rfl) ?_
  refine WL.nil (WE.then_normal (WC.seq (WC.seq (WC.region ?_))))
  refine WL.val (.inl rfl) rfl (yl_move rfl) ?_
  refine WL.val (.inl rfl) rfl (yl_eq rfl rfl) ?_
  rw [show ((lv : Int) == 2) = (lv == 2) from lv_eq lv 2]
  refine WL.val (.inl rfl) rfl (yl_move rfl) ?_
  apply WL.and 16 rfl rfl rfl rfl (.inl rfl) rfl rfl rfl rfl rfl
  ·
    intro hg0
    refine WL.val (.inr ⟨_, _, _, rfl, rfl, rfl⟩) rfl (yl_fa fo27_1 rfl) ?_
    refine WL.val (.inr ⟨_, _, _, rfl, rfl, rfl⟩) rfl (yl_ldk 0 rfl rfl rfl na22) ?_
    refine WL.val (.inr ⟨_, _, _, rfl, rfl, rfl⟩) rfl (yl_len es22 rfl) ?_
    refine WL.val (.inr ⟨_, _, _, rfl, rfl, rfl⟩) rfl (yl_gt rfl rfl) ?_
    rw [int_lt3]
    refine WL.val (.inr ⟨_, _, _, rfl, rfl, rfl⟩) rfl (yl_move rfl) ?_
    apply WL.or 4 rfl rfl rfl rfl (.inr ⟨_, _, _, rfl, rfl, rfl⟩) rfl rfl rfl rfl rfl
    ·
      intro hg1
      refine WL.val (.inr ⟨_, _, _, rfl, rfl, rfl⟩) rfl (yl_fa fo27_2 rfl) ?_
      refine WL.val (.inr ⟨_, _, _, rfl, rfl, rfl⟩) rfl (yl_ldk 0 rfl rfl rfl na23) ?_
      refine WL.val (.inr ⟨_, _, _, rfl, rfl, rfl⟩) rfl (yl_len es23 rfl) ?_
      refine WL.val (.inr ⟨_, _, _, rfl, rfl, rfl⟩) rfl (yl_gt rfl rfl) ?_
      rw [int_lt10]
      exact Got.intro 4 rfl rfl rfl
    refine WL.val (.inr ⟨_, _, _, rfl, rfl, rfl⟩) rfl (yl_move rfl) ?_
    apply WL.or 4 rfl rfl rfl rfl (.inr ⟨_, _, _, rfl, rfl, rfl⟩) rfl rfl rfl rfl rfl
    ·
      intro hg2
      refine WL.val (.inr ⟨_, _, _, rfl, rfl, rfl⟩) rfl (yl_fa fo27_3 rfl) ?_
      refine WL.val (.inr ⟨_, _, _, rfl, rfl, rfl⟩) rfl (yl_ldk 0 rfl rfl rfl na24) ?_
      refine WL.val (.inr ⟨_, _, _, rfl, rfl, rfl⟩) rfl (yl_len es24 rfl) ?_
      refine WL.val (.inr ⟨_, _, _, rfl, rfl, rfl⟩) rfl (yl_gt rfl rfl) ?_
      rw [int_lt6]
      exact Got.intro 4 rfl rfl rfl
    exact Got.intro 8 rfl rfl rfl
  refine WL.val (.inl rfl) rfl (yl_move rfl) ?_
  apply WL.or 8 rfl rfl rfl rfl (.inl rfl) rfl rfl rfl rfl rfl
  ·
    intro hg3
    refine WL.val (.inr ⟨_, _, _, rfl, rfl, rfl⟩) rfl (yl_move rfl) ?_
    refine WL.val (.inr ⟨_, _, _, rfl, rfl, rfl⟩) rfl (yl_eq rfl rfl) ?_
    rw [show ((lv : Int) == 3) = (lv == 3) from lv_eq lv 3]
    refine WL.val (.inr ⟨_, _, _, rfl, rfl, rfl⟩) rfl (yl_move rfl) ?_
    apply WL.and 4 rfl rfl rfl rfl (.inr ⟨_, _, _, rfl, rfl, rfl⟩) rfl rfl rfl rfl rfl
    ·
      intro hg4
      refine WL.val (.inr ⟨_, _, _, rfl, rfl, rfl⟩) rfl (yl_fa fo27_0 rfl) ?_
      refine WL.val (.inr ⟨_, _, _, rfl, rfl, rfl⟩) rfl (yl_ldk 0 rfl rfl rfl na9) ?_
      refine WL.callp (.inr ⟨_, _, _, rfl, rfl, rfl⟩) rfl en39 rfl (fun w hw => isNAME_any _ w) ?_
      refine WL.val (.inr ⟨_, _, _, rfl, rfl, rfl⟩) rfl (yl_not rfl) ?_
      exact Got.intro 4 rfl rfl rfl
    exact Got.intro 4 rfl rfl rfl
  refine WL.nil (WE.then_normal ?_)
  refine WC.cond rfl (fun hc0 => ?_) (fun hc0 => ?_)
  ·
    refine WC.seq (WC.region ?_)
    refine WL.val (.inl rfl) rfl (yl_assign rfl) ?_
    refine WL.nil (WE.then_normal (WC.ret (WE.then_ret ?_)))
    refine WE.ret1 rfl rfl fun w' hw => ?_
    exact ⟨by rw [modL_0 hc0], hw.fr⟩
  ·
    refine WC.skip (WE.then_normal (WC.seq (WC.seq (WC.region ?_))))
    refine WL.val (.inl rfl) rfl (yl_assign rfl) ?_
    refine WL.nil (WE.then_normal (WC.block ?_))
    refine WC.loopW (ι := Nat) (fun i => [(5, .int .i64 (i : Int))]) [(1, _), (2, _)] (fun i => i ≤ m.uses.length ∧ ∀ j z, j < i → m.uses[j]? = some z → badN lv z = false) (fun i => m.uses.length - i) 0 ⟨Nat.zero_le _, by simp⟩ (sc rfl (sc rfl (sc rfl sn))) ?_
    intro i ⟨hii, hallu⟩
    refine WC.seq (WC.seq (WC.region ?_))
    refine WL.val (.inl rfl) rfl (yl_move rfl) ?_
    refine WL.val (.inl rfl) rfl (yl_fa fo27_1 rfl) ?_
    refine WL.val (.inl rfl) rfl (yl_ldk 0 rfl rfl rfl na22) ?_
    refine WL.val (.inl rfl) rfl (yl_len es22 rfl) ?_
    refine WL.val (.inl rfl) rfl (yl_lt rfl rfl) ?_
    refine WL.nil (WE.then_normal ?_)
    refine WC.cond rfl (fun hc1 => ?_) (fun hc1 => ?_)
    ·
      have hlt : i < m.uses.length := by simpa using hc1
      obtain ⟨u, hui⟩ : ∃ x, m.uses[i]? = some x := ⟨_, List.getElem?_eq_getElem hlt⟩
      obtain ⟨pbu, pou, ha, hrow⟩ := hm.uses.elt i u hui
      have hrow : RdC H pbu (pou + i * 1) (strC u) := hrow
      refine WC.skip (WE.then_normal (WC.seq (WC.block (WC.seq (WC.region ?_)))))
      refine WL.val (.inl rfl) rfl (yl_move rfl) ?_
      refine WL.val (.inl rfl) rfl (yl_eq rfl rfl) ?_
      rw [show ((lv : Int) == 3) = (lv == 3) from lv_eq lv 3]
      refine WL.val (.inl rfl) rfl (yl_move rfl) ?_
      apply WL.and 7 rfl rfl rfl rfl (.inl rfl) rfl rfl rfl rfl rfl
      ·
        intro hg5
        refine WL.val (.inr ⟨_, _, _, rfl, rfl, rfl⟩) rfl (yl_fa fo27_1 rfl) ?_
        refine WL.val (.inr ⟨_, _, _, rfl, rfl, rfl⟩) rfl (yl_ldk 0 rfl rfl rfl na22) ?_
        refine WL.val (.inr ⟨_, _, _, rfl, rfl, rfl⟩) rfl (yl_move rfl) ?_
        refine WL.val (.inr ⟨_, _, _, rfl, rfl, rfl⟩) rfl (yl_iao es22 rfl rfl ha (by omega)) ?_
        refine WL.val (.inr ⟨_, _, _, rfl, rfl, rfl⟩) rfl (yl_ld 0 na9 rfl rfl (hrow 0 _ rfl)) ?_
        refine WL.callp (.inr ⟨_, _, _, rfl, rfl, rfl⟩) rfl en39 rfl (fun w hw => isNAME_any _ w) ?_
        refine WL.val (.inr ⟨_, _, _, rfl, rfl, rfl⟩) rfl (yl_not rfl) ?_
        exact Got.intro 7 rfl rfl rfl
      refine WL.nil (WE.then_normal ?_)
      refine WC.cond rfl (fun hc2 => ?_) (fun hc2 => ?_)
      ·
        refine WC.seq (WC.region ?_)
        refine WL.val (.inl rfl) rfl (yl_assign rfl) ?_
        refine WL.nil (WE.then_normal (WC.ret (WE.block_ret (WE.then_ret (WE.then_ret ?_)))))
        refine WE.block_ret (WE.then_ret ?_)
        refine WE.ret1 rfl rfl fun w' hw => ?_
        exact ⟨by rw [modL_1 (any_at hui hc2)], hw.fr⟩
      ·
        refine WC.skip (WE.block_normal (WE.then_normal (WC.region ?_)))
        refine WL.val (.inl rfl) rfl (yl_move rfl) ?_
        refine WL.val (.inl rfl) rfl (yl_inc rfl rfl rfl (by omega)) ?_
        refine WL.val (.inl rfl) rfl (yl_assign rfl) ?_
        refine WL.nil ?_
        exact WE.again (i + 1) (by omega) ⟨by omega, fun j z hj hz => by rcases Nat.lt_succ_iff_lt_or_eq.1 hj with h | rfl; exact hallu j z h hz; rw [hui] at hz; injection hz with hz; subst hz; exact hc2⟩ (sc rfl (sc rfl (sc rfl sn))) (fun _ h => h)
    ·
      have hgeu : ¬ i < m.uses.length := by simpa using hc1
      have hanyu : m.uses.any (badN lv) = false := any_false fun j z hj => hallu j z (by have := (List.getElem?_eq_some_iff.1 hj).1; omega) hj
      refine WC.exit (WE.then_exit (WE.then_exit (WE.block_hit (WE.then_normal (WC.seq ?_)))))
      refine WC.seq (WC.region ?_)
      refine WL.val (.inl rfl) rfl (yl_assign rfl) ?_
      refine WL.nil (WE.then_normal (WC.block ?_))
      refine WC.loopW (ι := Nat) (fun p => [(6, .int .i64 (p : Int))]) [(1, _), (2, _)] (fun p => p ≤ m.decls.length ∧ ∀ j z, j < p → m.decls[j]? = some z → declL lv z = false) (fun p => m.decls.length - p) 0 ⟨Nat.zero_le _, by simp⟩ (sc rfl (sc rfl (sc rfl sn))) ?_
      intro p ⟨hip, halld⟩
      refine WC.seq (WC.seq (WC.region ?_))
      refine WL.val (.inl rfl) rfl (yl_move rfl) ?_
      refine WL.val (.inl rfl) rfl (yl_fa fo27_2 rfl) ?_
      refine WL.val (.inl rfl) rfl (yl_ldk 0 rfl rfl rfl na23) ?_
      refine WL.val (.inl rfl) rfl (yl_len es23 rfl) ?_
      refine WL.val (.inl rfl) rfl (yl_lt rfl rfl) ?_
      refine WL.nil (WE.then_normal ?_)
      refine WC.cond rfl (fun hc3 => ?_) (fun hc3 => ?_)
      ·
        have hlt : p < m.decls.length := by simpa using hc3
        obtain ⟨d, hdi⟩ : ∃ q, m.decls[p]? = some q := ⟨_, List.getElem?_eq_getElem hlt⟩
        obtain ⟨pbd, pod, had, hrd⟩ := hm.decls.elt p d hdi
        have hrd : RdC H pbd (pod + p * 4) d.cells := hrd
        refine WC.skip (WE.then_normal (WC.seq (WC.block (WC.seq (WC.region ?_)))))
        refine WL.val (.inl rfl) rfl (yl_fa fo27_2 rfl) ?_
        refine WL.val (.inl rfl) rfl (yl_ldk 0 rfl rfl rfl na23) ?_
        refine WL.val (.inl rfl) rfl (yl_move rfl) ?_
        refine WL.val (.inl rfl) rfl (yl_iao es23 rfl rfl had (by omega)) ?_
        refine WL.val (.inl rfl) rfl (yl_lda 0 ag53 rfl rfl rfl (hrd)) ?_
        refine WL.alloc (.inl rfl) rfl zr53 fun b7 => ?_
        refine WL.store 0 (.inl rfl) rfl rfl rfl sz53 rfl rfl rfl ?_
        refine WL.nil (WE.then_normal (WC.seq (WC.seq (WC.region ?_))))
        refine WL.val (.inl rfl) rfl (yl_move rfl) ?_
        refine WL.val (.inl rfl) rfl (yl_eq rfl rfl) ?_
        rw [show ((lv : Int) == 1) = (lv == 1) from lv_eq lv 1]
        refine WL.val (.inl rfl) rfl (yl_move rfl) ?_
        apply WL.and 4 rfl rfl rfl rfl (.inl rfl) rfl rfl rfl rfl rfl
        ·
          intro hg6
          refine WL.val (.inr ⟨_, _, _, rfl, rfl, rfl⟩) rfl (yl_fa fo53_0 rfl) ?_
          refine WL.val (.inr ⟨_, _, _, rfl, rfl, rfl⟩) rfl (yl_ldk 0 rfl rfl rfl na3) ?_
          refine WL.callp (.inr ⟨_, _, _, rfl, rfl, rfl⟩) rfl en40 rfl (fun w hw => within_any _ _ _ w) ?_
          refine WL.val (.inr ⟨_, _, _, rfl, rfl, rfl⟩) rfl (yl_not rfl) ?_
          exact Got.intro 4 rfl rfl rfl
        refine WL.nil (WE.then_normal ?_)
        refine WC.cond rfl (fun hc4 => ?_) (fun hc4 => ?_)
        ·
          have h4_ : ((lv == 1) && !within_ d.kind 1 3) = true := hc4
          have hbad : declL lv d = true := by unfold declL; rw [h4_]; rfl
          refine WC.seq (WC.region ?_)
          refine WL.val (.inl rfl) rfl (yl_assign rfl) ?_
          refine WL.nil (WE.then_normal (WC.ret (WE.then_ret (WE.block_ret (WE.then_ret ?_)))))
          refine WE.then_ret (WE.block_ret (WE.then_ret ?_))
          refine WE.ret1 rfl rfl fun w' hw => ?_
          exact ⟨by rw [modL_2 (any_at hdi hbad)], hw.fr⟩
        ·
          have h4_ : ((lv == 1) && !within_ d.kind 1 3) = false := hc4
          refine WC.skip (WE.then_normal (WC.seq (WC.region ?_)))
          refine WL.val (.inl rfl) rfl (yl_move rfl) ?_
          refine WL.val (.inl rfl) rfl (yl_eq rfl rfl) ?_
          rw [show ((lv : Int) == 3) = (lv == 3) from lv_eq lv 3]
          refine WL.val (.inl rfl) rfl (yl_move rfl) ?_
          apply WL.and 36 (x := ((((!nameT d.nm || ((d.kind == 1) && !within_ d.n 0 1099511627775)) || ((d.kind == 2) && !(d.n == 0))) || ((d.kind == 3) && !within_ d.n 1 32)))) rfl rfl rfl rfl (.inl rfl) rfl rfl rfl rfl rfl
          ·
            intro hg7
            refine WL.val (.inr ⟨_, _, _, rfl, rfl, rfl⟩) rfl (yl_fa fo53_1 rfl) ?_
            refine WL.val (.inr ⟨_, _, _, rfl, rfl, rfl⟩) rfl (yl_ldk 0 rfl rfl rfl na9) ?_
            refine WL.callp (.inr ⟨_, _, _, rfl, rfl, rfl⟩) rfl en39 rfl (fun w hw => isNAME_any _ w) ?_
            refine WL.val (.inr ⟨_, _, _, rfl, rfl, rfl⟩) rfl (yl_not rfl) ?_
            refine WL.val (.inr ⟨_, _, _, rfl, rfl, rfl⟩) rfl (yl_move rfl) ?_
            apply WL.or 9 rfl rfl rfl rfl (.inr ⟨_, _, _, rfl, rfl, rfl⟩) rfl rfl rfl rfl rfl
            ·
              intro hg8
              refine WL.val (.inr ⟨_, _, _, rfl, rfl, rfl⟩) rfl (yl_fa fo53_0 rfl) ?_
              refine WL.val (.inr ⟨_, _, _, rfl, rfl, rfl⟩) rfl (yl_ldk 0 rfl rfl rfl na3) ?_
              refine WL.val (.inr ⟨_, _, _, rfl, rfl, rfl⟩) rfl (yl_eq rfl rfl) ?_
              refine WL.val (.inr ⟨_, _, _, rfl, rfl, rfl⟩) rfl (yl_move rfl) ?_
              apply WL.and 4 rfl rfl rfl rfl (.inr ⟨_, _, _, rfl, rfl, rfl⟩) rfl rfl rfl rfl rfl
              ·
                intro hg9
                refine WL.val (.inr ⟨_, _, _, rfl, rfl, rfl⟩) rfl (yl_fa fo53_3 rfl) ?_
                refine WL.val (.inr ⟨_, _, _, rfl, rfl, rfl⟩) rfl (yl_ldk 0 rfl rfl rfl na3) ?_
                refine WL.callp (.inr ⟨_, _, _, rfl, rfl, rfl⟩) rfl en40 rfl (fun w hw => within_any _ _ _ w) ?_
                refine WL.val (.inr ⟨_, _, _, rfl, rfl, rfl⟩) rfl (yl_not rfl) ?_
                exact Got.intro 4 rfl rfl rfl
              exact Got.intro 5 rfl rfl rfl
            refine WL.val (.inr ⟨_, _, _, rfl, rfl, rfl⟩) rfl (yl_move rfl) ?_
            apply WL.or 8 rfl rfl rfl rfl (.inr ⟨_, _, _, rfl, rfl, rfl⟩) rfl rfl rfl rfl rfl
            ·
              intro hg10
              refine WL.val (.inr ⟨_, _, _, rfl, rfl, rfl⟩) rfl (yl_fa fo53_0 rfl) ?_
              refine WL.val (.inr ⟨_, _, _, rfl, rfl, rfl⟩) rfl (yl_ldk 0 rfl rfl rfl na3) ?_
              refine WL.val (.inr ⟨_, _, _, rfl, rfl, rfl⟩) rfl (yl_eq rfl rfl) ?_
              refine WL.val (.inr ⟨_, _, _, rfl, rfl, rfl⟩) rfl (yl_move rfl) ?_
              apply WL.and 3 rfl rfl rfl rfl (.inr ⟨_, _, _, rfl, rfl, rfl⟩) rfl rfl rfl rfl rfl
              ·
                intro hg11
                refine WL.val (.inr ⟨_, _, _, rfl, rfl, rfl⟩) rfl (yl_fa fo53_3 rfl) ?_
                refine WL.val (.inr ⟨_, _, _, rfl, rfl, rfl⟩) rfl (yl_ldk 0 rfl rfl rfl na3) ?_
                refine WL.val (.inr ⟨_, _, _, rfl, rfl, rfl⟩) rfl (yl_ne rfl rfl) ?_
                exact Got.intro 3 rfl rfl rfl
              exact Got.intro 5 rfl rfl rfl
            refine WL.val (.inr ⟨_, _, _, rfl, rfl, rfl⟩) rfl (yl_move rfl) ?_
            apply WL.or 9 rfl rfl rfl rfl (.inr ⟨_, _, _, rfl, rfl, rfl⟩) rfl rfl rfl rfl rfl
            ·
              intro hg12
              refine WL.val (.inr ⟨_, _, _, rfl, rfl, rfl⟩) rfl (yl_fa fo53_0 rfl) ?_
              refine WL.val (.inr ⟨_, _, _, rfl, rfl, rfl⟩) rfl (yl_ldk 0 rfl rfl rfl na3) ?_
              refine WL.val (.inr ⟨_, _, _, rfl, rfl, rfl⟩) rfl (yl_eq rfl rfl) ?_
              refine WL.val (.inr ⟨_, _, _, rfl, rfl, rfl⟩) rfl (yl_move rfl) ?_
              apply WL.and 4 rfl rfl rfl rfl (.inr ⟨_, _, _, rfl, rfl, rfl⟩) rfl rfl rfl rfl rfl
              ·
                intro hg13
                refine WL.val (.inr ⟨_, _, _, rfl, rfl, rfl⟩) rfl (yl_fa fo53_3 rfl) ?_
                refine WL.val (.inr ⟨_, _, _, rfl, rfl, rfl⟩) rfl (yl_ldk 0 rfl rfl rfl na3) ?_
                refine WL.callp (.inr ⟨_, _, _, rfl, rfl, rfl⟩) rfl en40 rfl (fun w hw => within_any _ _ _ w) ?_
                refine WL.val (.inr ⟨_, _, _, rfl, rfl, rfl⟩) rfl (yl_not rfl) ?_
                exact Got.intro 4 rfl rfl rfl
              exact Got.intro 5 rfl rfl rfl
            exact Got.intro 10 rfl rfl rfl
          refine WL.nil (WE.then_normal ?_)
          refine WC.cond rfl (fun hc5 => ?_) (fun hc5 => ?_)
          ·
            have h5_ : ((lv == 3) && (((!nameT d.nm || ((d.kind == 1) && !within_ d.n 0 1099511627775)) || ((d.kind == 2) && !(d.n == 0))) || ((d.kind == 3) && !within_ d.n 1 32))) = true := hc5
            have hbad : declL lv d = true := by unfold declL; rw [h5_, Bool.or_true]
            refine WC.seq (WC.region ?_)
            refine WL.val (.inl rfl) rfl (yl_assign rfl) ?_
            refine WL.nil (WE.then_normal (WC.ret (WE.block_ret (WE.then_ret (WE.then_ret ?_)))))
            refine WE.block_ret (WE.then_ret ?_)
            refine WE.ret1 rfl rfl fun w' hw => ?_
            exact ⟨by rw [modL_2 (any_at hdi hbad)], hw.fr⟩
          ·
            have h5_ : ((lv == 3) && (((!nameT d.nm || ((d.kind == 1) && !within_ d.n 0 1099511627775)) || ((d.kind == 2) && !(d.n == 0))) || ((d.kind == 3) && !within_ d.n 1 32))) = false := hc5
            have hbad : declL lv d = false := by unfold declL; rw [h4_, h5_]; rfl
            refine WC.skip (WE.block_normal (WE.then_normal (WC.region ?_)))
            refine WL.val (.inl rfl) rfl (yl_move rfl) ?_
            refine WL.val (.inl rfl) rfl (yl_inc rfl rfl rfl (by omega)) ?_
            refine WL.val (.inl rfl) rfl (yl_assign rfl) ?_
            refine WL.nil ?_
            exact WE.again (p + 1) (by omega) ⟨by omega, fun j z hj hz => by rcases Nat.lt_succ_iff_lt_or_eq.1 hj with h | rfl; exact halld j z h hz; rw [hdi] at hz; injection hz with hz; subst hz; exact hbad⟩ (sc rfl (sc rfl (sc rfl sn))) (fun _ h => Ws.drop (L := [_]) h)
      ·
        have hged : ¬ p < m.decls.length := by simpa using hc3
        have hanyd : m.decls.any (declL lv) = false := any_false fun j z hj => halld j z (by have := (List.getElem?_eq_some_iff.1 hj).1; omega) hj
        refine WC.exit (WE.then_exit (WE.then_exit (WE.block_hit (WE.then_normal (WC.seq ?_)))))
        refine WC.seq (WC.region ?_)
        refine WL.val (.inl rfl) rfl (yl_assign rfl) ?_
        refine WL.nil (WE.then_normal (WC.block ?_))
        refine WC.loopW (ι := Nat) (fun jj => [(8, .int .i64 (jj : Int))]) [(1, _), (2, _)] (fun jj => jj ≤ m.procs.length ∧ ∀ j z, j < jj → m.procs[j]? = some z → procL lv z = false) (fun jj => m.procs.length - jj) 0 ⟨Nat.zero_le _, by simp⟩ (sc rfl (sc rfl (sc rfl sn))) ?_
        intro jj ⟨hijj, hallp⟩
        refine WC.seq (WC.seq (WC.region ?_))
        refine WL.val (.inl rfl) rfl (yl_move rfl) ?_
        refine WL.val (.inl rfl) rfl (yl_fa fo27_3 rfl) ?_
        refine WL.val (.inl rfl) rfl (yl_ldk 0 rfl rfl rfl na24) ?_
        refine WL.val (.inl rfl) rfl (yl_len es24 rfl) ?_
        refine WL.val (.inl rfl) rfl (yl_lt rfl rfl) ?_
        refine WL.nil (WE.then_normal ?_)
        refine WC.cond rfl (fun hc6 => ?_) (fun hc6 => ?_)
        ·
          have hlt : jj < m.procs.length := by simpa using hc6
          obtain ⟨p, hpi⟩ : ∃ q, m.procs[jj]? = some q := ⟨_, List.getElem?_eq_getElem hlt⟩
          obtain ⟨pbp, pop, hap, hrp⟩ := hm.procs.elt jj p hpi
          obtain ⟨pa1, pc1, pa2, pc2, pa3, pc3, hrow, hs1, hs2, hs3⟩ := hrp
          have hup := wP_upto hpi
          have q5 := wN_len p.params
          have q6 := wN_len p.locs
          have c1_ := hs1.cap
          have x1_ := hs1.max
          have c2_ := hs2.cap
          have x2_ := hs2.max
          refine WC.skip (WE.then_normal (WC.seq (WC.block (WC.seq (WC.region ?_)))))
          refine WL.val (.inl rfl) rfl (yl_fa fo27_3 rfl) ?_
          refine WL.val (.inl rfl) rfl (yl_ldk 0 rfl rfl rfl na24) ?_
          refine WL.val (.inl rfl) rfl (yl_move rfl) ?_
          refine WL.val (.inl rfl) rfl (yl_iao es24 rfl rfl hap (by omega)) ?_
          refine WL.val (.inl rfl) rfl (yl_lda 0 ag56 rfl rfl rfl (hrow)) ?_
          refine WL.alloc (.inl rfl) rfl zr56 fun b9 => ?_
          refine WL.store 0 (.inl rfl) rfl rfl rfl sz56 rfl rfl rfl ?_
          refine WL.nil (WE.then_normal (WC.seq (WC.seq (WC.region ?_))))
          refine WL.val (.inl rfl) rfl (yl_move rfl) ?_
          refine WL.val (.inl rfl) rfl (yl_eq rfl rfl) ?_
          rw [show ((lv : Int) == 2) = (lv == 2) from lv_eq lv 2]
          refine WL.val (.inl rfl) rfl (yl_move rfl) ?_
          apply WL.and 10 rfl rfl rfl rfl (.inl rfl) rfl rfl rfl rfl rfl
          ·
            intro hg14
            refine WL.val (.inr ⟨_, _, _, rfl, rfl, rfl⟩) rfl (yl_fa fo56_2 rfl) ?_
            refine WL.val (.inr ⟨_, _, _, rfl, rfl, rfl⟩) rfl (yl_ldk 0 rfl rfl rfl na22) ?_
            refine WL.val (.inr ⟨_, _, _, rfl, rfl, rfl⟩) rfl (yl_len es22 rfl) ?_
            refine WL.val (.inr ⟨_, _, _, rfl, rfl, rfl⟩) rfl (yl_gt rfl rfl) ?_
            rw [int_lt3]
            refine WL.val (.inr ⟨_, _, _, rfl, rfl, rfl⟩) rfl (yl_move rfl) ?_
            apply WL.or 4 rfl rfl rfl rfl (.inr ⟨_, _, _, rfl, rfl, rfl⟩) rfl rfl rfl rfl rfl
            ·
              intro hg15
              refine WL.val (.inr ⟨_, _, _, rfl, rfl, rfl⟩) rfl (yl_fa fo56_3 rfl) ?_
              refine WL.val (.inr ⟨_, _, _, rfl, rfl, rfl⟩) rfl (yl_ldk 0 rfl rfl rfl na22) ?_
              refine WL.val (.inr ⟨_, _, _, rfl, rfl, rfl⟩) rfl (yl_len es22 rfl) ?_
              refine WL.val (.inr ⟨_, _, _, rfl, rfl, rfl⟩) rfl (yl_gt rfl rfl) ?_
              rw [int_lt4]
              exact Got.intro 4 rfl rfl rfl
            exact Got.intro 6 rfl rfl rfl
          refine WL.val (.inl rfl) rfl (yl_move rfl) ?_
          apply WL.or 8 rfl rfl rfl rfl (.inl rfl) rfl rfl rfl rfl rfl
          ·
            intro hg16
            refine WL.val (.inr ⟨_, _, _, rfl, rfl, rfl⟩) rfl (yl_move rfl) ?_
            refine WL.val (.inr ⟨_, _, _, rfl, rfl, rfl⟩) rfl (yl_eq rfl rfl) ?_
            rw [show ((lv : Int) == 3) = (lv == 3) from lv_eq lv 3]
            refine WL.val (.inr ⟨_, _, _, rfl, rfl, rfl⟩) rfl (yl_move rfl) ?_
            apply WL.and 4 rfl rfl rfl rfl (.inr ⟨_, _, _, rfl, rfl, rfl⟩) rfl rfl rfl rfl rfl
            ·
              intro hg17
              refine WL.val (.inr ⟨_, _, _, rfl, rfl, rfl⟩) rfl (yl_fa fo56_0 rfl) ?_
              refine WL.val (.inr ⟨_, _, _, rfl, rfl, rfl⟩) rfl (yl_ldk 0 rfl rfl rfl na9) ?_
              refine WL.callp (.inr ⟨_, _, _, rfl, rfl, rfl⟩) rfl en39 rfl (fun w hw => isNAME_any _ w) ?_
              refine WL.val (.inr ⟨_, _, _, rfl, rfl, rfl⟩) rfl (yl_not rfl) ?_
              exact Got.intro 4 rfl rfl rfl
            exact Got.intro 4 rfl rfl rfl
          refine WL.val (.inl rfl) rfl (yl_move rfl) ?_
          apply WL.or 4 rfl rfl rfl rfl (.inl rfl) rfl rfl rfl rfl rfl
          ·
            intro hg18
            refine WL.val (.inr ⟨_, _, _, rfl, rfl, rfl⟩) rfl (yl_fa fo56_4 rfl) ?_
            refine WL.val (.inr ⟨_, _, _, rfl, rfl, rfl⟩) rfl (yl_ldk 0 rfl rfl rfl na25) ?_
            refine WL.val (.inr ⟨_, _, _, rfl, rfl, rfl⟩) rfl (yl_move rfl) ?_
            refine WL.callp (.inr ⟨_, _, _, rfl, rfl, rfl⟩) rfl en41 rfl (fun w hw => blockLook_any H ke lv hlv ks p.body pa3 pc3 1 w (hw.vs _ (by simp)) (by omega) hs3) ?_
            exact Got.intro 4 rfl rfl rfl
          refine WL.nil (WE.then_normal ?_)
          refine WC.cond rfl (fun hc7 => ?_) (fun hc7 => ?_)
          ·
            have h7_ : ((((lv == 2) && (decide (3 < p.params.length) || decide (4 < p.locs.length))) || badN lv p.nm) || lookB p.body lv 1) = true := hc7
            have hbad : procL lv p = true := by unfold procL; rw [h7_]; rfl
            refine WC.seq (WC.region ?_)
            refine WL.val (.inl rfl) rfl (yl_assign rfl) ?_
            refine WL.nil (WE.then_normal (WC.ret (WE.then_ret (WE.block_ret (WE.then_ret ?_)))))
            refine WE.then_ret (WE.block_ret (WE.then_ret ?_))
            refine WE.ret1 rfl rfl fun w' hw => ?_
            exact ⟨by rw [modL_3 (any_at hpi hbad)], hw.fr⟩
          ·
            have h7_ : ((((lv == 2) && (decide (3 < p.params.length) || decide (4 < p.locs.length))) || badN lv p.nm) || lookB p.body lv 1) = false := hc7
            refine WC.skip (WE.then_normal (WC.seq ?_))
            refine WC.draws0 [(1, true), (2, true), (4, true), (5, true), (0, false), (3, false), (6, false), (7, true)] mixed (by kernel_rfl) (fun _ _ _ d _ h => by cases d <;> exact h) ?_
            refine WD.q rfl (.inl rfl) rfl (fun _ h => h) (yl_fa fo56_2 rfl) ?_
            refine WD.q rfl (.inl rfl) rfl (fun _ h => h) (yl_ldk 0 rfl rfl rfl na22) ?_
            refine WD.q rfl (.inl rfl) rfl (fun _ h => h) (yl_fa fo56_3 rfl) ?_
            refine WD.q rfl (.inl rfl) rfl (fun _ h => h) (yl_ldk 0 rfl rfl rfl na22) ?_
            refine WD.e rfl (fun _ h => h) ?_
            refine WL.bslice (.inl rfl) rfl el22 rfl rfl rfl fun b162 => ?_
            refine WL.asOsl (size := 1) 0 rfl (Nat.le_refl 0) (Nat.zero_le _) rfl ?_
            refine WL.reosl 0 ([] : List Tx).length (([] : List Tx).flatMap strC) rfl rfl rfl ?_
            refine WL.nil (WE.toD ?_)
            refine WD.e rfl (fun _ h => by have h := Ws.drop (L := [_]) (L' := _) h; exact h) ?_
            refine WL.appendL (ys := p.params) (xs := []) 0 (fun _ => H) (.inl rfl) rfl el22 rfl rfl rfl (fun w hw => ⟨hw.vs H (by simp), hs1⟩) (fun _ _ _ _ h => h) strC_len str_one (by simp; omega) (by simp; omega) fun a165 c165 => ?_
            refine WL.nil (WE.toD ?_)
            refine WD.e rfl (fun _ h => by have h := Ws.drop (L := [_]) (L' := _) h; exact h) ?_
            refine WL.appendL (ys := p.locs) (xs := [] ++ p.params) 0 (fun _ => H) (.inl rfl) rfl el22 rfl rfl rfl (fun w hw => ⟨hw.vs H (by simp), hs2⟩) (fun _ _ _ _ h => h) strC_len str_one (by simp; omega) (by simp; omega) fun a168 c168 => ?_
            refine WL.nil (WE.toD ?_)
            refine WD.q rfl (.inl rfl) rfl (fun _ h => by have h := Ws.drop (L := [_]) (L' := _) h; exact h) (yl_assign rfl) ?_
            refine WD.nil (fun _ h => by have h := Ws.drop (L := [_]) (L' := _) h; exact h) ?_
            refine WE.then_normal (WC.seq ?_)
            refine WC.oslview (rd := rdStr) 0 rfl strC_len (fun _ _ _ _ h => h) fun HA hHA => ?_
            have hHA : Sl rdStr 1 HA a168 c168 (p.params ++ p.locs) := hHA
            have hcA := hHA.cap
            have hxA := hHA.max
            refine WC.region ?_
            refine WL.val (.inl rfl) rfl (yl_assign rfl) ?_
            refine WL.nil (WE.then_normal (WC.block ?_))
            refine WC.loopW (ι := Nat) (fun e => [(11, .int .i64 (e : Int))]) [(1, _), (2, _), (8, _), (10, _)] (fun e => e ≤ (p.params ++ p.locs).length ∧ ∀ j z, j < e → (p.params ++ p.locs)[j]? = some z → badN lv z = false) (fun e => (p.params ++ p.locs).length - e) 0 ⟨Nat.zero_le _, by simp⟩ (sc rfl (sc rfl (sc rfl (sc rfl (sc rfl sn))))) ?_
            intro e ⟨hie, halls⟩
            refine WC.seq (WC.seq (WC.region ?_))
            refine WL.val (.inl rfl) rfl (yl_move rfl) ?_
            refine WL.val (.inl rfl) rfl (yl_move rfl) ?_
            refine WL.val (.inl rfl) rfl (yl_len es22 rfl) ?_
            refine WL.val (.inl rfl) rfl (yl_lt rfl rfl) ?_
            refine WL.nil (WE.then_normal ?_)
            refine WC.cond rfl (fun hc8 => ?_) (fun hc8 => ?_)
            ·
              have hlt : e < (p.params ++ p.locs).length := by simp only [List.length_append]; simp at hc8; omega
              obtain ⟨s, hsi⟩ : ∃ x, (p.params ++ p.locs)[e]? = some x := ⟨_, List.getElem?_eq_getElem hlt⟩
              obtain ⟨pbs, pos, ha, hrow⟩ := hHA.elt e s hsi
              have hrow : RdC HA pbs (pos + e * 1) (strC s) := hrow
              refine WC.skip (WE.then_normal (WC.seq (WC.block (WC.seq (WC.region ?_)))))
              refine WL.val (.inl rfl) rfl (yl_move rfl) ?_
              refine WL.val (.inl rfl) rfl (yl_eq rfl rfl) ?_
              rw [show ((lv : Int) == 3) = (lv == 3) from lv_eq lv 3]
              refine WL.val (.inl rfl) rfl (yl_move rfl) ?_
              apply WL.and 6 rfl rfl rfl rfl (.inl rfl) rfl rfl rfl rfl rfl
              ·
                intro hg19
                refine WL.val (.inr ⟨_, _, _, rfl, rfl, rfl⟩) rfl (yl_move rfl) ?_
                refine WL.val (.inr ⟨_, _, _, rfl, rfl, rfl⟩) rfl (yl_move rfl) ?_
                refine WL.val (.inr ⟨_, _, _, rfl, rfl, rfl⟩) rfl (yl_iao es22 rfl rfl ha (by simp at hlt ⊢; omega)) ?_
                refine WL.val (.inr ⟨_, _, _, rfl, rfl, rfl⟩) rfl (yl_ld 0 na9 rfl rfl (hrow 0 _ rfl)) ?_
                refine WL.callp (.inr ⟨_, _, _, rfl, rfl, rfl⟩) rfl en39 rfl (fun w hw => isNAME_any _ w) ?_
                refine WL.val (.inr ⟨_, _, _, rfl, rfl, rfl⟩) rfl (yl_not rfl) ?_
                exact Got.intro 6 rfl rfl rfl
              refine WL.nil (WE.then_normal ?_)
              refine WC.cond rfl (fun hc9 => ?_) (fun hc9 => ?_)
              ·
                have hbad : procL lv p = true := by unfold procL; rw [any_at hsi hc9, Bool.or_true]
                refine WC.seq (WC.region ?_)
                refine WL.val (.inl rfl) rfl (yl_assign rfl) ?_
                refine WL.nil (WE.then_normal (WC.ret (WE.block_ret (WE.then_ret (WE.then_ret ?_)))))
                refine WE.block_ret (WE.block_ret (WE.then_ret (WE.then_ret (WE.block_ret (WE.then_ret ?_)))))
                refine WE.ret1 rfl rfl fun w' hw => ?_
                exact ⟨by rw [modL_3 (any_at hpi hbad)], hw.fr⟩
              ·
                refine WC.skip (WE.block_normal (WE.then_normal (WC.region ?_)))
                refine WL.val (.inl rfl) rfl (yl_move rfl) ?_
                refine WL.val (.inl rfl) rfl (yl_inc rfl rfl rfl (by omega)) ?_
                refine WL.val (.inl rfl) rfl (yl_assign rfl) ?_
                refine WL.nil ?_
                exact WE.again (e + 1) (by omega) ⟨by omega, fun j z hj hz => by rcases Nat.lt_succ_iff_lt_or_eq.1 hj with h | rfl; exact halls j z h hz; rw [hsi] at hz; injection hz with hz; subst hz; exact hc9⟩ (sc rfl (sc rfl (sc rfl (sc rfl (sc rfl sn))))) (fun _ h => h)
            ·
              have hges : ¬ e < (p.params ++ p.locs).length := by simp only [List.length_append]; simp at hc8; omega
              have hanys : (p.params ++ p.locs).any (badN lv) = false := any_false fun j z hj => halls j z (by have := (List.getElem?_eq_some_iff.1 hj).1; omega) hj
              have hbad : procL lv p = false := by unfold procL; rw [hanys, h7_]; rfl
              refine WC.exit (WE.then_exit (WE.then_exit (WE.block_hit (WE.block_normal (WE.then_normal ?_)))))
              refine WC.region ?_
              refine WL.val (.inl rfl) rfl (yl_move rfl) ?_
              refine WL.val (.inl rfl) rfl (yl_inc rfl rfl rfl (by omega)) ?_
              refine WL.val (.inl rfl) rfl (yl_assign rfl) ?_
              refine WL.nil ?_
              exact WE.again (jj + 1) (by omega) ⟨by omega, fun j z hj hz => by rcases Nat.lt_succ_iff_lt_or_eq.1 hj with h | rfl; exact hallp j z h hz; rw [hpi] at hz; injection hz with hz; subst hz; exact hbad⟩ (sc rfl (sc rfl (sc rfl sn))) (fun _ h => Ws.drops (Ws.drop (L := [_]) h) (fun _ hm => List.mem_append_right [_] hm))
        ·
          have hgep : ¬ jj < m.procs.length := by simpa using hc6
          have hanyp : m.procs.any (procL lv) = false := any_false fun j z hj => hallp j z (by have := (List.getElem?_eq_some_iff.1 hj).1; omega) hj
          refine WC.exit (WE.then_exit (WE.then_exit (WE.block_hit (WE.then_normal (WC.seq ?_)))))
          refine WC.region ?_
          refine WL.val (.inl rfl) rfl (yl_fa fo27_4 rfl) ?_
          refine WL.val (.inl rfl) rfl (yl_ldk 0 rfl rfl rfl na25) ?_
          refine WL.val (.inl rfl) rfl (yl_move rfl) ?_
          refine WL.callp (.inl rfl) rfl en41 rfl (fun w hw => blockLook_any H ke lv hlv ks m.main r.a4 r.c4 1 w (hw.vs _ (by simp)) (by omega) hm.main) ?_
          refine WL.val (.inl rfl) rfl (yl_assign rfl) ?_
          refine WL.nil (WE.then_normal (WC.ret ?_))
          refine WE.ret1 rfl rfl fun w' hw => ?_
          exact ⟨by rw [modL_end hc0 hanyu hanyd hanyp], hw.fr⟩
theorem checkModule_any (H : View) (ke ks : Nat) (r : MAt) (m : TMod) (w : World) (hH : Le H w) (hm : RdM ke ks H r m) (hb : wM m ≤ 109951162777) :
    Calls Tryz.prog 8 #[.agg (modV m r).toArray] w fun e w' => e = .returned (.int .i64 (checkL m)) ∧ Ext w w' := by
  refine enter Tryz.func8 rfl 12 rfl rfl ?_
  refine WC.world (W' := Ws w [] [] [H]) (fun _ e => by subst e; exact Ws.init (by simp [hH])) ?_
  refine WC.seq (WC.region ?_)
  refine WL.box (.inl rfl) rfl rfl fun b1 => ?_
  refine WL.val (.inl rfl) rfl (yl_assign rfl) ?_
  refine WL.nil (WE.then_normal (WC.seq (WC.block (WC.seq (WC.region ?_)))))
  refine WL.val (.inl rfl) rfl (yl_ldka 0 rfl rfl ag27 rfl) ?_
  refine WL.callp (.inl rfl) rfl en23 rfl (fun w hw => moduleLook_any H ke ks r m 1 w (by omega) (hw.vs _ (by simp)) hm hb) ?_
  refine WL.val (.inl rfl) rfl (yl_assign rfl) ?_
  refine WL.nil (WE.then_normal ?_)
  refine WC.cond rfl (fun hc0 => ?_) (fun hc0 => ?_)
  ·
    refine WC.seq (WC.region ?_)
    refine WL.val (.inl rfl) rfl (yl_assign rfl) ?_
    refine WL.nil (WE.then_normal (WC.ret (WE.block_ret (WE.then_ret ?_))))
    refine WE.ret1 rfl rfl fun w' hw => ?_
    exact ⟨by rw [checkL, if_pos hc0], hw.fr⟩
  ·
    refine WC.seq (WC.region ?_)
    refine WL.val (.inl rfl) rfl (yl_ldka 0 rfl rfl ag27 rfl) ?_
    refine WL.callp (.inl rfl) rfl en23 rfl (fun w hw => moduleLook_any H ke ks r m 2 w (by omega) (hw.vs _ (by simp)) hm hb) ?_
    refine WL.val (.inl rfl) rfl (yl_assign rfl) ?_
    refine WL.nil (WE.then_normal ?_)
    refine WC.cond rfl (fun hc1 => ?_) (fun hc1 => ?_)
    ·
      refine WC.seq (WC.region ?_)
      refine WL.val (.inl rfl) rfl (yl_assign rfl) ?_
      refine WL.nil (WE.then_normal (WC.ret (WE.block_ret (WE.then_ret ?_))))
      refine WE.ret1 rfl rfl fun w' hw => ?_
      exact ⟨by rw [checkL, if_neg (by rw [hc0]; decide), if_pos hc1], hw.fr⟩
    ·
      refine WC.seq (WC.region ?_)
      refine WL.val (.inl rfl) rfl (yl_ldka 0 rfl rfl ag27 rfl) ?_
      refine WL.callp (.inl rfl) rfl en23 rfl (fun w hw => moduleLook_any H ke ks r m 3 w (by omega) (hw.vs _ (by simp)) hm hb) ?_
      refine WL.val (.inl rfl) rfl (yl_assign rfl) ?_
      refine WL.nil (WE.then_normal ?_)
      refine WC.cond rfl (fun hc2 => ?_) (fun hc2 => ?_)
      ·
        refine WC.seq (WC.region ?_)
        refine WL.val (.inl rfl) rfl (yl_assign rfl) ?_
        refine WL.nil (WE.then_normal (WC.ret (WE.block_ret (WE.then_ret ?_))))
        refine WE.ret1 rfl rfl fun w' hw => ?_
        exact ⟨by rw [checkL, if_neg (by rw [hc0]; decide), if_neg (by rw [hc1]; decide), if_pos hc2], hw.fr⟩
      ·
        refine WC.skip (WE.block_normal (WE.then_normal (WC.seq (WC.region ?_))))
        refine WL.val (.inl rfl) rfl (yl_assign rfl) ?_
        refine WL.nil (WE.then_normal (WC.ret ?_))
        refine WE.ret1 rfl rfl fun w' hw => ?_
        exact ⟨by rw [checkL, if_neg (by rw [hc0]; decide), if_neg (by rw [hc1]; decide), if_neg (by rw [hc2]; decide)], hw.fr⟩
end Go.Proofs.YtjfldjidhkfnbaaGreatDoor
end
section
namespace Go.Proofs.YtjfldjidhkfnbaaGreatDoor
open Go.Bw
set_option linter.unusedVariables false
set_option linter.unusedSimpArgs false
def asks (s : Tx) (l : Tk) : Bool := (l.head?.map fun t => (!(t.kind == 2) && (t.text == s))).getD false
end Go.Proofs.YtjfldjidhkfnbaaGreatDoor
end
section
namespace Go.Proofs.YtjfldjidhkfnbaaGreatDoor
open Go.Bw
set_option linter.unusedVariables false
set_option linter.unusedSimpArgs false
structure GE where
  es : List XE
  a : Option Addr
  c : Nat
  J : View
  r : Option Addr × Nat
  q : Tk
  more : Bool
end Go.Proofs.YtjfldjidhkfnbaaGreatDoor
end
section
namespace Go.Proofs.YtjfldjidhkfnbaaGreatDoor
open Go.Bw
set_option linter.unusedVariables false
set_option linter.unusedSimpArgs false
structure GO where
  j : Nat
  o : Int
  r : Option Addr × Nat
  q : Tk
end Go.Proofs.YtjfldjidhkfnbaaGreatDoor
end
section
namespace Go.Proofs.YtjfldjidhkfnbaaGreatDoor
open Go.Bw
set_option linter.unusedVariables false
set_option linter.unusedSimpArgs false
structure SlS8 (f : Nat) (N : View) (x : TStmt) (p : SAt) : Prop where
  args : Sl (RdE 8) 5 N p.s1.1 p.s1.2 x.args
  body : Sl (RdS 8 f) 6 N p.s2.1 p.s2.2 x.body
  other : Sl (RdS 8 f) 6 N p.s3.1 p.s3.2 x.other
theorem slS8_mv {H N : View} {f c : Nat} {a : Option Addr} {l : List TStmt} (h : Sl (RdS 8 f) 6 H a c l) (hv : VLe H N) : Sl (RdS 8 f) 6 N a c l := h.imp fun b o y hy => RdS_mono hv (Nat.le_refl _) (Nat.le_refl _) b o y hy
theorem SlS8.mv {f : Nat} {H N : View} {x : TStmt} {p : SAt} (h : SlS8 f H x p) (hv : VLe H N) : SlS8 f N x p := ⟨slE_mv h.args hv, slS8_mv h.body hv, slS8_mv h.other hv⟩
def SXs8 (J : View) (f : Nat) (es : List SX) : Prop := ∀ e ∈ es, SlS8 f J e.1 e.2
theorem SXs8.nil (J : View) (f : Nat) : SXs8 J f [] := by intro e h; simp at h
theorem SXs8.snoc {J J1 J2 : View} {f : Nat} {es : List SX} {e : SX} (h : SXs8 J f es) (h1 : VLe J J2) (h2 : VLe J1 J2) (he : SlS8 f J1 e.1 e.2) : SXs8 J2 f (es ++ [e]) := by
  intro x hx
  rcases List.mem_append.1 hx with hx | hx
  · exact (h x hx).mv h1
  · rw [List.mem_singleton] at hx
    subst hx
    exact he.mv h2
theorem slS8_of {H J N : View} {f c : Nat} {a : Option Addr} {es : List SX} (h : Sl rdSX 6 H a c es) (hv : VLe H N) (hJ : VLe J N) (hes : SXs8 J f es) : Sl (RdS 8 (f + 1)) 6 N a c (es.map (·.1)) := by
  refine ⟨by simpa using h.cap, h.max, h.spot, fun i x hx => ?_⟩
  rw [List.getElem?_map] at hx
  obtain ⟨e, he, rfl⟩ := Option.map_eq_some_iff.1 hx
  obtain ⟨b, o, h1, h2⟩ := h.elt i e he
  have h3 := (hes e (List.mem_of_getElem? he)).mv hJ
  exact ⟨b, o, h1, e.2.s1.1, e.2.s1.2, e.2.s2.1, e.2.s2.2, e.2.s3.1, e.2.s3.2, RdC.mono hv h2, h3.args, h3.body, h3.other⟩
variable {pb : Tk → List TStmt × Tk} {l r q1 q2 q3 q4 : Tk} {x y : TExpr} {b o : List TStmt} {p : Tx × Tx} {xs : List TExpr}
variable {ps : Tk → TStmt × Tk} {s : TStmt} {n : Nat}
theorem pl43 : placesP Tryz.prog 43 = some [(0, 1), (1, 1), (2, 1), (3, 1), (4, 1), (5, 1)] := by kernel_rfl
end Go.Proofs.YtjfldjidhkfnbaaGreatDoor
end
section
namespace Go.Proofs.YtjfldjidhkfnbaaGreatDoor
open Go.Bw
set_option linter.unusedVariables false
set_option linter.unusedSimpArgs false
structure SlP8 (N : View) (x : TProc) (p : PAt) : Prop where
  params : Sl rdStr 1 N p.s1.1 p.s1.2 x.params
  locs : Sl rdStr 1 N p.s2.1 p.s2.2 x.locs
  body : Sl (RdS 8 6) 6 N p.s3.1 p.s3.2 x.body
theorem SlP8.mv {H N : View} {x : TProc} {p : PAt} (h : SlP8 H x p) (hv : VLe H N) : SlP8 N x p := ⟨slStr_mv h.params hv, slStr_mv h.locs hv, slS8_mv h.body hv⟩
def PXs8 (J : View) (es : List PX) : Prop := ∀ e ∈ es, SlP8 J e.1 e.2
theorem PXs8.nil (J : View) : PXs8 J [] := by intro e h; simp at h
theorem PXs8.snoc {J J1 J2 : View} {es : List PX} {e : PX} (h : PXs8 J es) (h1 : VLe J J2) (h2 : VLe J1 J2) (he : SlP8 J1 e.1 e.2) : PXs8 J2 (es ++ [e]) := by
  intro x hx
  rcases List.mem_append.1 hx with hx | hx
  · exact (h x hx).mv h1
  · rw [List.mem_singleton] at hx
    subst hx
    exact he.mv h2
theorem slP8_of {H J N : View} {c : Nat} {a : Option Addr} {es : List PX} (h : Sl rdPX 5 H a c es) (hv : VLe H N) (hJ : VLe J N) (hes : PXs8 J es) : Sl (RdP 8 6) 5 N a c (es.map (·.1)) := by
  refine ⟨by simpa using h.cap, h.max, h.spot, fun i x hx => ?_⟩
  rw [List.getElem?_map] at hx
  obtain ⟨e, he, rfl⟩ := Option.map_eq_some_iff.1 hx
  obtain ⟨b, o, h1, h2⟩ := h.elt i e he
  have h3 := (hes e (List.mem_of_getElem? he)).mv hJ
  exact ⟨b, o, h1, e.2.s1.1, e.2.s1.2, e.2.s2.1, e.2.s2.2, e.2.s3.1, e.2.s3.2, RdC.mono hv h2, h3.params, h3.locs, h3.body⟩
structure GD2 where
  ds : List TDecl
  a : Option Addr
  c : Nat
  go : Bool
  pub : Bool
  r : Option Addr × Nat
  q : Tk
structure GH where
  ps : List Tx
  a : Option Addr
  c : Nat
  more : Bool
  r : Option Addr × Nat
  q : Tk
theorem en8 : Enters Tryz.prog 8 := enters_of Tryz.func8 (by kernel_rfl) rfl
end Go.Proofs.YtjfldjidhkfnbaaGreatDoor
end
section
namespace Go.Proofs.YtjfldjidhkfnbaaGreatDoor
open Go.Bw
set_option linter.unusedVariables false
set_option linter.unusedSimpArgs false
theorem en65 : Enters Tryz.prog 65 := enters_of Tryz.func65 (by kernel_rfl) rfl
theorem en35 : Enters Tryz.prog 35 := enters_of Tryz.func35 (by kernel_rfl) rfl
theorem fl53 : flatSt Tryz.prog 53 = some [0, 1, 2, 0] := by kernel_rfl
theorem ub4 : Tryz.prog.underlying 4 = some .bool := by kernel_rfl
theorem en34 : Enters Tryz.prog 34 := enters_of Tryz.func34 (by kernel_rfl) rfl
theorem sameTexts_eq (H1 H2 : View) (a1 a2 : Option Addr) (c1 c2 : Nat) (l : List Tx) (w : World) (hH1 : Le H1 w) (hH2 : Le H2 w) (hm1 : Sl rdStr 1 H1 a1 c1 l) (hm2 : Sl rdStr 1 H2 a2 c2 l) :
    Calls Tryz.prog 34 #[.slice a1 l.length c1, .slice a2 l.length c2] w fun e w' => e = .returned (.bool true) ∧ Ext w w' := by
  have hcap1 := hm1.cap
  have hmax1 := hm1.max
  have hcap2 := hm2.cap
  have hmax2 := hm2.max
  refine enter Tryz.func34 rfl 26 rfl rfl ?_
  refine WC.world (W' := Ws w [] [] [H1, H2]) (fun _ e => by subst e; exact Ws.init (by simp [hH1, hH2])) ?_
  refine WC.seq (WC.region ?_)
  refine WL.val (.inl rfl) rfl (yl_assign rfl) ?_
  refine WL.nil (WE.then_normal (WC.seq (WC.seq (WC.region ?_))))
  refine WL.val (.inl rfl) rfl (yl_move rfl) ?_
  refine WL.val (.inl rfl) rfl (yl_len es22 rfl) ?_
  refine WL.val (.inl rfl) rfl (yl_move rfl) ?_
  refine WL.val (.inl rfl) rfl (yl_len es22 rfl) ?_
  refine WL.val (.inl rfl) rfl (yl_neY rfl rfl rfl) ?_
  refine WL.nil (WE.then_normal ?_)
  refine WC.condf rfl ?_
  refine WC.skip (WE.then_normal (WC.seq (WC.seq (WC.region ?_))))
  refine WL.val (.inl rfl) rfl (yl_assign rfl) ?_
  refine WL.nil (WE.then_normal (WC.block ?_))
  refine WC.loopW (ι := Nat) (fun i => [(5, .int .i64 (i : Int))]) [(0, _), (1, _)] (fun i => i ≤ l.length) (fun i => l.length - i) 0 (Nat.zero_le _) (sc rfl (sc rfl (sc rfl sn))) ?_
  intro i hi
  refine WC.seq (WC.seq (WC.region ?_))
  refine WL.val (.inl rfl) rfl (yl_move rfl) ?_
  refine WL.val (.inl rfl) rfl (yl_move rfl) ?_
  refine WL.val (.inl rfl) rfl (yl_len es22 rfl) ?_
  refine WL.val (.inl rfl) rfl (yl_lt rfl rfl) ?_
  refine WL.nil (WE.then_normal ?_)
  refine WC.cond rfl (fun hc1 => ?_) (fun hc1 => ?_)
  ·
    have hlt : i < l.length := by simpa using hc1
    obtain ⟨x, hx⟩ : ∃ x, l[i]? = some x := ⟨_, List.getElem?_eq_getElem hlt⟩
    obtain ⟨pb, po, ha1, hr1⟩ := hm1.elt i x hx
    obtain ⟨qb, qo, ha2, hr2⟩ := hm2.elt i x hx
    have hr1 : RdC H1 pb (po + i * 1) (strC x) := hr1
    have hr2 : RdC H2 qb (qo + i * 1) (strC x) := hr2
    refine WC.skip (WE.then_normal (WC.seq (WC.block (WC.seq ?_))))
    refine WC.draws0 [(0, true), (1, true), (2, true), (3, true), (4, true), (5, true), (6, true), (7, true), (8, true)] mixed (by kernel_rfl) (fun _ _ _ d _ h => by cases d <;> exact h) ?_
    refine WD.q rfl (.inl rfl) rfl (fun _ h => h) (yl_move rfl) ?_
    refine WD.q rfl (.inl rfl) rfl (fun _ h => h) (yl_move rfl) ?_
    refine WD.q rfl (.inl rfl) rfl (fun _ h => h) (yl_iao es22 rfl rfl ha1 (by omega)) ?_
    refine WD.q rfl (.inl rfl) rfl (fun _ h => h) (yl_ld 0 na9 rfl rfl (hr1 0 _ rfl)) ?_
    refine WD.q rfl (.inl rfl) rfl (fun _ h => h) (yl_move rfl) ?_
    refine WD.q rfl (.inl rfl) rfl (fun _ h => h) (yl_move rfl) ?_
    refine WD.q rfl (.inl rfl) rfl (fun _ h => h) (yl_iao es22 rfl rfl ha2 (by omega)) ?_
    refine WD.q rfl (.inl rfl) rfl (fun _ h => h) (yl_ld 1 na9 rfl rfl (hr2 0 _ rfl)) ?_
    refine WD.q rfl (.inl rfl) rfl (fun _ h => h) (yl_nesY rfl rfl rfl) ?_
    refine WD.nil (fun _ h => h) ?_
    refine WE.then_normal ?_
    refine WC.condf rfl ?_
    refine WC.skip (WE.block_normal (WE.then_normal (WC.region ?_)))
    refine WL.val (.inl rfl) rfl (yl_move rfl) ?_
    refine WL.val (.inl rfl) rfl (yl_inc rfl rfl rfl (by omega)) ?_
    refine WL.val (.inl rfl) rfl (yl_assign rfl) ?_
    refine WL.nil ?_
    exact WE.again (i + 1) (by omega) (by omega) (sc rfl (sc rfl (sc rfl sn))) (fun _ h => h)
  ·
    refine WC.exit (WE.then_exit (WE.then_exit (WE.block_hit (WE.then_normal (WC.seq ?_)))))
    refine WC.region ?_
    refine WL.val (.inl rfl) rfl (yl_assign rfl) ?_
    refine WL.nil (WE.then_normal (WC.ret ?_))
    refine WE.ret1 rfl rfl fun w' hw => ?_
    exact ⟨rfl, hw.fr⟩
theorem sameExprs_eq (H1 H2 : View) (a1 a2 : Option Addr) (c1 c2 : Nat) (k j : Nat) (l : List TExpr) (w : World) (hH1 : Le H1 w) (hH2 : Le H2 w) (hm1 : Sl (RdE k) 5 H1 a1 c1 l) (hm2 : Sl (RdE j) 5 H2 a2 c2 l) :
    Calls Tryz.prog 65 #[.slice a1 l.length c1, .slice a2 l.length c2] w fun e w' => e = .returned (.bool true) ∧ Ext w w' := by
  induction k using Nat.strongRecOn generalizing j a1 c1 a2 c2 l w
  rename_i k ih
  have hcap1 := hm1.cap
  have hmax1 := hm1.max
  have hcap2 := hm2.cap
  have hmax2 := hm2.max
  refine enter Tryz.func65 rfl 81 rfl rfl ?_
  refine WC.world (W' := Ws w [] [] [H1, H2]) (fun _ e => by subst e; exact Ws.init (by simp [hH1, hH2])) ?_
  refine WC.seq (WC.region ?_)
  refine WL.val (.inl rfl) rfl (yl_assign rfl) ?_
  refine WL.nil (WE.then_normal (WC.seq (WC.seq (WC.region ?_))))
  refine WL.val (.inl rfl) rfl (yl_move rfl) ?_
  refine WL.val (.inl rfl) rfl (yl_len es41 rfl) ?_
  refine WL.val (.inl rfl) rfl (yl_move rfl) ?_
  refine WL.val (.inl rfl) rfl (yl_len es41 rfl) ?_
  refine WL.val (.inl rfl) rfl (yl_neY rfl rfl rfl) ?_
  refine WL.nil (WE.then_normal ?_)
  refine WC.condf rfl ?_
  refine WC.skip (WE.then_normal (WC.seq (WC.seq (WC.region ?_))))
  refine WL.val (.inl rfl) rfl (yl_assign rfl) ?_
  refine WL.nil (WE.then_normal (WC.block ?_))
  refine WC.loopW (ι := Nat) (fun i => [(5, .int .i64 (i : Int))]) [(0, _), (1, _)] (fun i => i ≤ l.length) (fun i => l.length - i) 0 (Nat.zero_le _) (sc rfl (sc rfl (sc rfl sn))) ?_
  intro i hi
  refine WC.seq (WC.seq (WC.region ?_))
  refine WL.val (.inl rfl) rfl (yl_move rfl) ?_
  refine WL.val (.inl rfl) rfl (yl_move rfl) ?_
  refine WL.val (.inl rfl) rfl (yl_len es41 rfl) ?_
  refine WL.val (.inl rfl) rfl (yl_lt rfl rfl) ?_
  refine WL.nil (WE.then_normal ?_)
  refine WC.cond rfl (fun hc1 => ?_) (fun hc1 => ?_)
  ·
    have hlt : i < l.length := by simpa using hc1
    obtain ⟨x, hx⟩ : ∃ x, l[i]? = some x := ⟨_, List.getElem?_eq_getElem hlt⟩
    obtain ⟨pb, po, ha1, hr1⟩ := hm1.elt i x hx
    obtain ⟨qb, qo, ha2, hr2⟩ := hm2.elt i x hx
    obtain ⟨k2, rfl⟩ : ∃ k2, k = k2 + 1 := by
      cases k with
      | zero => exact hr1.elim
      | succ k2 => exact ⟨k2, rfl⟩
    obtain ⟨j2, rfl⟩ : ∃ k2, j = k2 + 1 := by
      cases j with
      | zero => exact hr2.elim
      | succ k2 => exact ⟨k2, rfl⟩
    obtain ⟨u1, n1, hr1, hs1⟩ := hr1
    obtain ⟨u2, n2, hr2, hs2⟩ := hr2
    refine WC.skip (WE.then_normal (WC.seq (WC.block (WC.seq ?_))))
    refine WC.draws0 [(0, true), (1, true), (2, true), (3, true), (4, true), (5, true), (6, true), (7, true), (8, true), (9, true), (10, true), (11, true), (12, true), (13, true), (14, true), (15, true), (16, true), (17, true), (18, true), (19, true), (20, true), (21, true), (22, true), (23, true), (24, true), (25, true), (26, true), (27, true), (28, true), (29, true), (30, true), (31, true), (32, true), (33, true), (34, true), (35, true), (36, true), (37, true), (38, true), (39, true), (40, true), (41, true), (42, true), (43, true), (44, true), (45, true), (46, true), (47, true), (48, true), (49, true), (50, true), (51, true), (52, true), (53, true), (54, true), (55, true), (56, true), (57, true), (58, true), (59, true), (60, true), (61, false), (62, true), (63, true)] mixed (by kernel_rfl) (fun _ _ _ d _ h => by cases d <;> exact h) ?_
    refine WD.q rfl (.inl rfl) rfl (fun _ h => h) (yl_move rfl) ?_
    refine WD.q rfl (.inl rfl) rfl (fun _ h => h) (yl_move rfl) ?_
    refine WD.q rfl (.inl rfl) rfl (fun _ h => h) (yl_iao es41 rfl rfl ha1 (by omega)) ?_
    refine WD.q rfl (.inl rfl) rfl (fun _ h => h) (yl_fa fo81_0 rfl) ?_
    refine WD.q rfl (.inl rfl) rfl (fun _ h => h) (yl_ld 0 na3 rfl rfl (hr1 0 _ rfl)) ?_
    refine WD.q rfl (.inl rfl) rfl (fun _ h => h) (yl_move rfl) ?_
    refine WD.q rfl (.inl rfl) rfl (fun _ h => h) (yl_move rfl) ?_
    refine WD.q rfl (.inl rfl) rfl (fun _ h => h) (yl_iao es41 rfl rfl ha2 (by omega)) ?_
    refine WD.q rfl (.inl rfl) rfl (fun _ h => h) (yl_fa fo81_0 rfl) ?_
    refine WD.q rfl (.inl rfl) rfl (fun _ h => h) (yl_ld 1 na3 rfl rfl (hr2 0 _ rfl)) ?_
    refine WD.q rfl (.inl rfl) rfl (fun _ h => h) (yl_neY rfl rfl rfl) ?_
    refine WD.q rfl (.inl rfl) rfl (fun _ h => h) (yl_move rfl) ?_
    apply WD.or 11 rfl rfl rfl rfl rfl (.inl rfl) rfl (fun _ h => h) rfl rfl rfl rfl
    ·
      intro hg0
      refine WD.q rfl (.inr ⟨_, _, _, rfl, rfl, rfl⟩) rfl (fun _ h => h) (yl_move rfl) ?_
      refine WD.q rfl (.inr ⟨_, _, _, rfl, rfl, rfl⟩) rfl (fun _ h => h) (yl_move rfl) ?_
      refine WD.q rfl (.inr ⟨_, _, _, rfl, rfl, rfl⟩) rfl (fun _ h => h) (yl_iao es41 rfl rfl ha1 (by omega)) ?_
      refine WD.q rfl (.inr ⟨_, _, _, rfl, rfl, rfl⟩) rfl (fun _ h => h) (yl_fa fo81_1 rfl) ?_
      refine WD.q rfl (.inr ⟨_, _, _, rfl, rfl, rfl⟩) rfl (fun _ h => h) (yl_ld 0 na3 rfl rfl (hr1 1 _ rfl)) ?_
      refine WD.q rfl (.inr ⟨_, _, _, rfl, rfl, rfl⟩) rfl (fun _ h => h) (yl_move rfl) ?_
      refine WD.q rfl (.inr ⟨_, _, _, rfl, rfl, rfl⟩) rfl (fun _ h => h) (yl_move rfl) ?_
      refine WD.q rfl (.inr ⟨_, _, _, rfl, rfl, rfl⟩) rfl (fun _ h => h) (yl_iao es41 rfl rfl ha2 (by omega)) ?_
      refine WD.q rfl (.inr ⟨_, _, _, rfl, rfl, rfl⟩) rfl (fun _ h => h) (yl_fa fo81_1 rfl) ?_
      refine WD.q rfl (.inr ⟨_, _, _, rfl, rfl, rfl⟩) rfl (fun _ h => h) (yl_ld 1 na3 rfl rfl (hr2 1 _ rfl)) ?_
      refine WD.q rfl (.inr ⟨_, _, _, rfl, rfl, rfl⟩) rfl (fun _ h => h) (yl_neY rfl rfl rfl) ?_
      exact GotD.intro 11 (fun _ h => h) rfl rfl rfl
    refine WD.q rfl (.inl rfl) rfl (fun _ h => h) (yl_move rfl) ?_
    apply WD.or 11 rfl rfl rfl rfl rfl (.inl rfl) rfl (fun _ h => h) rfl rfl rfl rfl
    ·
      intro hg1
      refine WD.q rfl (.inr ⟨_, _, _, rfl, rfl, rfl⟩) rfl (fun _ h => h) (yl_move rfl) ?_
      refine WD.q rfl (.inr ⟨_, _, _, rfl, rfl, rfl⟩) rfl (fun _ h => h) (yl_move rfl) ?_
      refine WD.q rfl (.inr ⟨_, _, _, rfl, rfl, rfl⟩) rfl (fun _ h => h) (yl_iao es41 rfl rfl ha1 (by omega)) ?_
      refine WD.q rfl (.inr ⟨_, _, _, rfl, rfl, rfl⟩) rfl (fun _ h => h) (yl_fa fo81_2 rfl) ?_
      refine WD.q rfl (.inr ⟨_, _, _, rfl, rfl, rfl⟩) rfl (fun _ h => h) (yl_ld 0 na9 rfl rfl (hr1 2 _ rfl)) ?_
      refine WD.q rfl (.inr ⟨_, _, _, rfl, rfl, rfl⟩) rfl (fun _ h => h) (yl_move rfl) ?_
      refine WD.q rfl (.inr ⟨_, _, _, rfl, rfl, rfl⟩) rfl (fun _ h => h) (yl_move rfl) ?_
      refine WD.q rfl (.inr ⟨_, _, _, rfl, rfl, rfl⟩) rfl (fun _ h => h) (yl_iao es41 rfl rfl ha2 (by omega)) ?_
      refine WD.q rfl (.inr ⟨_, _, _, rfl, rfl, rfl⟩) rfl (fun _ h => h) (yl_fa fo81_2 rfl) ?_
      refine WD.q rfl (.inr ⟨_, _, _, rfl, rfl, rfl⟩) rfl (fun _ h => h) (yl_ld 1 na9 rfl rfl (hr2 2 _ rfl)) ?_
      refine WD.q rfl (.inr ⟨_, _, _, rfl, rfl, rfl⟩) rfl (fun _ h => h) (yl_nesY rfl rfl rfl) ?_
      exact GotD.intro 11 (fun _ h => h) rfl rfl rfl
    refine WD.q rfl (.inl rfl) rfl (fun _ h => h) (yl_move rfl) ?_
    apply WD.or 11 rfl rfl rfl rfl rfl (.inl rfl) rfl (fun _ h => h) rfl rfl rfl rfl
    ·
      intro hg2
      refine WD.q rfl (.inr ⟨_, _, _, rfl, rfl, rfl⟩) rfl (fun _ h => h) (yl_move rfl) ?_
      refine WD.q rfl (.inr ⟨_, _, _, rfl, rfl, rfl⟩) rfl (fun _ h => h) (yl_move rfl) ?_
      refine WD.q rfl (.inr ⟨_, _, _, rfl, rfl, rfl⟩) rfl (fun _ h => h) (yl_iao es41 rfl rfl ha1 (by omega)) ?_
      refine WD.q rfl (.inr ⟨_, _, _, rfl, rfl, rfl⟩) rfl (fun _ h => h) (yl_fa fo81_3 rfl) ?_
      refine WD.q rfl (.inr ⟨_, _, _, rfl, rfl, rfl⟩) rfl (fun _ h => h) (yl_ld 0 na9 rfl rfl (hr1 3 _ rfl)) ?_
      refine WD.q rfl (.inr ⟨_, _, _, rfl, rfl, rfl⟩) rfl (fun _ h => h) (yl_move rfl) ?_
      refine WD.q rfl (.inr ⟨_, _, _, rfl, rfl, rfl⟩) rfl (fun _ h => h) (yl_move rfl) ?_
      refine WD.q rfl (.inr ⟨_, _, _, rfl, rfl, rfl⟩) rfl (fun _ h => h) (yl_iao es41 rfl rfl ha2 (by omega)) ?_
      refine WD.q rfl (.inr ⟨_, _, _, rfl, rfl, rfl⟩) rfl (fun _ h => h) (yl_fa fo81_3 rfl) ?_
      refine WD.q rfl (.inr ⟨_, _, _, rfl, rfl, rfl⟩) rfl (fun _ h => h) (yl_ld 1 na9 rfl rfl (hr2 3 _ rfl)) ?_
      refine WD.q rfl (.inr ⟨_, _, _, rfl, rfl, rfl⟩) rfl (fun _ h => h) (yl_nesY rfl rfl rfl) ?_
      exact GotD.intro 11 (fun _ h => h) rfl rfl rfl
    refine WD.q rfl (.inl rfl) rfl (fun _ h => h) (yl_move rfl) ?_
    apply WD.or 12 (x := false) rfl rfl rfl rfl rfl (.inl rfl) rfl (fun _ h => h) rfl rfl rfl rfl
    ·
      intro hg3
      refine WD.q rfl (.inr ⟨_, _, _, rfl, rfl, rfl⟩) rfl (fun _ h => h) (yl_move rfl) ?_
      refine WD.q rfl (.inr ⟨_, _, _, rfl, rfl, rfl⟩) rfl (fun _ h => h) (yl_move rfl) ?_
      refine WD.q rfl (.inr ⟨_, _, _, rfl, rfl, rfl⟩) rfl (fun _ h => h) (yl_iao es41 rfl rfl ha1 (by omega)) ?_
      refine WD.q rfl (.inr ⟨_, _, _, rfl, rfl, rfl⟩) rfl (fun _ h => h) (yl_fa fo81_4 rfl) ?_
      refine WD.q rfl (.inr ⟨_, _, _, rfl, rfl, rfl⟩) rfl (fun _ h => h) (yl_ld 0 na41 rfl rfl (hr1 4 _ rfl)) ?_
      refine WD.q rfl (.inr ⟨_, _, _, rfl, rfl, rfl⟩) rfl (fun _ h => h) (yl_move rfl) ?_
      refine WD.q rfl (.inr ⟨_, _, _, rfl, rfl, rfl⟩) rfl (fun _ h => h) (yl_move rfl) ?_
      refine WD.q rfl (.inr ⟨_, _, _, rfl, rfl, rfl⟩) rfl (fun _ h => h) (yl_iao es41 rfl rfl ha2 (by omega)) ?_
      refine WD.q rfl (.inr ⟨_, _, _, rfl, rfl, rfl⟩) rfl (fun _ h => h) (yl_fa fo81_4 rfl) ?_
      refine WD.q rfl (.inr ⟨_, _, _, rfl, rfl, rfl⟩) rfl (fun _ h => h) (yl_ld 1 na41 rfl rfl (hr2 4 _ rfl)) ?_
      refine WD.e rfl (fun _ h => h) ?_
      refine WL.callp (.inr ⟨_, _, _, rfl, rfl, rfl⟩) rfl en65 rfl (fun w hw => ih k2 (by omega) u1 u2 n1 n2 j2 x.args w (hw.vs _ (by simp)) (hw.vs _ (by simp)) hs1 hs2) ?_
      refine WL.nil (WE.toD ?_)
      refine WD.q rfl (.inr ⟨_, _, _, rfl, rfl, rfl⟩) rfl (fun _ h => h) (yl_not rfl) ?_
      exact GotD.intro 12 (fun _ h => h) rfl rfl rfl
    refine WD.nil (fun _ h => h) ?_
    refine WE.then_normal ?_
    refine WC.condf rfl ?_
    refine WC.skip (WE.block_normal (WE.then_normal (WC.region ?_)))
    refine WL.val (.inl rfl) rfl (yl_move rfl) ?_
    refine WL.val (.inl rfl) rfl (yl_inc rfl rfl rfl (by omega)) ?_
    refine WL.val (.inl rfl) rfl (yl_assign rfl) ?_
    refine WL.nil ?_
    exact WE.again (i + 1) (by omega) (by omega) (sc rfl (sc rfl (sc rfl sn))) (fun _ h => h)
  ·
    refine WC.exit (WE.then_exit (WE.then_exit (WE.block_hit (WE.then_normal (WC.seq ?_)))))
    refine WC.region ?_
    refine WL.val (.inl rfl) rfl (yl_assign rfl) ?_
    refine WL.nil (WE.then_normal (WC.ret ?_))
    refine WE.ret1 rfl rfl fun w' hw => ?_
    exact ⟨rfl, hw.fr⟩
theorem sameBlocks_eq (H1 H2 : View) (a1 a2 : Option Addr) (c1 c2 : Nat) (ke1 ke2 k j : Nat) (l : List TStmt) (w : World) (hH1 : Le H1 w) (hH2 : Le H2 w) (hm1 : Sl (RdS ke1 k) 6 H1 a1 c1 l) (hm2 : Sl (RdS ke2 j) 6 H2 a2 c2 l) :
    Calls Tryz.prog 35 #[.slice a1 l.length c1, .slice a2 l.length c2] w fun e w' => e = .returned (.bool true) ∧ Ext w w' := by
  induction k using Nat.strongRecOn generalizing j a1 c1 a2 c2 l w
  rename_i k ih
  have hcap1 := hm1.cap
  have hmax1 := hm1.max
  have hcap2 := hm2.cap
  have hmax2 := hm2.max
  refine enter Tryz.func35 rfl 96 rfl rfl ?_
  refine WC.world (W' := Ws w [] [] [H1, H2]) (fun _ e => by subst e; exact Ws.init (by simp [hH1, hH2])) ?_
  refine WC.seq (WC.region ?_)
  refine WL.val (.inl rfl) rfl (yl_assign rfl) ?_
  refine WL.nil (WE.then_normal (WC.seq (WC.seq (WC.region ?_))))
  refine WL.val (.inl rfl) rfl (yl_move rfl) ?_
  refine WL.val (.inl rfl) rfl (yl_len es25 rfl) ?_
  refine WL.val (.inl rfl) rfl (yl_move rfl) ?_
  refine WL.val (.inl rfl) rfl (yl_len es25 rfl) ?_
  refine WL.val (.inl rfl) rfl (yl_neY rfl rfl rfl) ?_
  refine WL.nil (WE.then_normal ?_)
  refine WC.condf rfl ?_
  refine WC.skip (WE.then_normal (WC.seq (WC.seq (WC.region ?_))))
  refine WL.val (.inl rfl) rfl (yl_assign rfl) ?_
  refine WL.nil (WE.then_normal (WC.block ?_))
  refine WC.loopW (ι := Nat) (fun i => [(5, .int .i64 (i : Int))]) [(0, _), (1, _)] (fun i => i ≤ l.length) (fun i => l.length - i) 0 (Nat.zero_le _) (sc rfl (sc rfl (sc rfl sn))) ?_
  intro i hi
  refine WC.seq (WC.seq (WC.region ?_))
  refine WL.val (.inl rfl) rfl (yl_move rfl) ?_
  refine WL.val (.inl rfl) rfl (yl_move rfl) ?_
  refine WL.val (.inl rfl) rfl (yl_len es25 rfl) ?_
  refine WL.val (.inl rfl) rfl (yl_lt rfl rfl) ?_
  refine WL.nil (WE.then_normal ?_)
  refine WC.cond rfl (fun hc1 => ?_) (fun hc1 => ?_)
  ·
    have hlt : i < l.length := by simpa using hc1
    obtain ⟨x, hx⟩ : ∃ x, l[i]? = some x := ⟨_, List.getElem?_eq_getElem hlt⟩
    obtain ⟨pb, po, ha1, hr1⟩ := hm1.elt i x hx
    obtain ⟨qb, qo, ha2, hr2⟩ := hm2.elt i x hx
    obtain ⟨k2, rfl⟩ : ∃ k2, k = k2 + 1 := by
      cases k with
      | zero => exact hr1.elim
      | succ k2 => exact ⟨k2, rfl⟩
    obtain ⟨j2, rfl⟩ : ∃ k2, j = k2 + 1 := by
      cases j with
      | zero => exact hr2.elim
      | succ k2 => exact ⟨k2, rfl⟩
    obtain ⟨u1, n1, u2, n2, u3, n3, hr1, hs1, hs2, hs3⟩ := hr1
    obtain ⟨v1, m1, v2, m2, v3, m3, hr2, ht1, ht2, ht3⟩ := hr2
    refine WC.skip (WE.then_normal (WC.seq (WC.block (WC.seq ?_))))
    refine WC.draws0 [(0, true), (1, true), (2, true), (3, true), (4, true), (5, true), (6, true), (7, true), (8, true), (9, true), (10, true), (11, true), (12, true), (13, true), (14, true), (15, true), (16, true), (17, true), (18, true), (19, true), (20, true), (21, true), (22, true), (23, true), (24, true), (25, true), (26, true), (27, true), (28, true), (29, true), (30, true), (31, true), (32, true), (33, true), (34, true), (35, true), (36, true), (37, true), (38, true), (39, true), (40, true), (41, true), (42, true), (43, true), (44, true), (45, true), (46, true), (47, true), (48, false), (49, true), (50, true), (51, true), (52, true), (53, true), (54, true), (55, true), (56, true), (57, true), (58, true), (59, true), (60, true), (61, true), (62, false), (63, true), (64, true), (65, true), (66, true), (67, true), (68, true), (69, true), (70, true), (71, true), (72, true), (73, true), (74, true), (75, true), (76, false), (77, true), (78, true)] mixed (by kernel_rfl) (fun _ _ _ d _ h => by cases d <;> exact h) ?_
    refine WD.q rfl (.inl rfl) rfl (fun _ h => h) (yl_move rfl) ?_
    refine WD.q rfl (.inl rfl) rfl (fun _ h => h) (yl_move rfl) ?_
    refine WD.q rfl (.inl rfl) rfl (fun _ h => h) (yl_iao es25 rfl rfl ha1 (by omega)) ?_
    refine WD.q rfl (.inl rfl) rfl (fun _ h => h) (yl_fa fo43_0 rfl) ?_
    refine WD.q rfl (.inl rfl) rfl (fun _ h => h) (yl_ld 0 na3 rfl rfl (hr1 0 _ rfl)) ?_
    refine WD.q rfl (.inl rfl) rfl (fun _ h => h) (yl_move rfl) ?_
    refine WD.q rfl (.inl rfl) rfl (fun _ h => h) (yl_move rfl) ?_
    refine WD.q rfl (.inl rfl) rfl (fun _ h => h) (yl_iao es25 rfl rfl ha2 (by omega)) ?_
    refine WD.q rfl (.inl rfl) rfl (fun _ h => h) (yl_fa fo43_0 rfl) ?_
    refine WD.q rfl (.inl rfl) rfl (fun _ h => h) (yl_ld 1 na3 rfl rfl (hr2 0 _ rfl)) ?_
    refine WD.q rfl (.inl rfl) rfl (fun _ h => h) (yl_neY rfl rfl rfl) ?_
    refine WD.q rfl (.inl rfl) rfl (fun _ h => h) (yl_move rfl) ?_
    apply WD.or 11 rfl rfl rfl rfl rfl (.inl rfl) rfl (fun _ h => h) rfl rfl rfl rfl
    ·
      intro hg0
      refine WD.q rfl (.inr ⟨_, _, _, rfl, rfl, rfl⟩) rfl (fun _ h => h) (yl_move rfl) ?_
      refine WD.q rfl (.inr ⟨_, _, _, rfl, rfl, rfl⟩) rfl (fun _ h => h) (yl_move rfl) ?_
      refine WD.q rfl (.inr ⟨_, _, _, rfl, rfl, rfl⟩) rfl (fun _ h => h) (yl_iao es25 rfl rfl ha1 (by omega)) ?_
      refine WD.q rfl (.inr ⟨_, _, _, rfl, rfl, rfl⟩) rfl (fun _ h => h) (yl_fa fo43_1 rfl) ?_
      refine WD.q rfl (.inr ⟨_, _, _, rfl, rfl, rfl⟩) rfl (fun _ h => h) (yl_ld 0 na9 rfl rfl (hr1 1 _ rfl)) ?_
      refine WD.q rfl (.inr ⟨_, _, _, rfl, rfl, rfl⟩) rfl (fun _ h => h) (yl_move rfl) ?_
      refine WD.q rfl (.inr ⟨_, _, _, rfl, rfl, rfl⟩) rfl (fun _ h => h) (yl_move rfl) ?_
      refine WD.q rfl (.inr ⟨_, _, _, rfl, rfl, rfl⟩) rfl (fun _ h => h) (yl_iao es25 rfl rfl ha2 (by omega)) ?_
      refine WD.q rfl (.inr ⟨_, _, _, rfl, rfl, rfl⟩) rfl (fun _ h => h) (yl_fa fo43_1 rfl) ?_
      refine WD.q rfl (.inr ⟨_, _, _, rfl, rfl, rfl⟩) rfl (fun _ h => h) (yl_ld 1 na9 rfl rfl (hr2 1 _ rfl)) ?_
      refine WD.q rfl (.inr ⟨_, _, _, rfl, rfl, rfl⟩) rfl (fun _ h => h) (yl_nesY rfl rfl rfl) ?_
      exact GotD.intro 11 (fun _ h => h) rfl rfl rfl
    refine WD.q rfl (.inl rfl) rfl (fun _ h => h) (yl_move rfl) ?_
    apply WD.or 11 rfl rfl rfl rfl rfl (.inl rfl) rfl (fun _ h => h) rfl rfl rfl rfl
    ·
      intro hg1
      refine WD.q rfl (.inr ⟨_, _, _, rfl, rfl, rfl⟩) rfl (fun _ h => h) (yl_move rfl) ?_
      refine WD.q rfl (.inr ⟨_, _, _, rfl, rfl, rfl⟩) rfl (fun _ h => h) (yl_move rfl) ?_
      refine WD.q rfl (.inr ⟨_, _, _, rfl, rfl, rfl⟩) rfl (fun _ h => h) (yl_iao es25 rfl rfl ha1 (by omega)) ?_
      refine WD.q rfl (.inr ⟨_, _, _, rfl, rfl, rfl⟩) rfl (fun _ h => h) (yl_fa fo43_2 rfl) ?_
      refine WD.q rfl (.inr ⟨_, _, _, rfl, rfl, rfl⟩) rfl (fun _ h => h) (yl_ld 0 na9 rfl rfl (hr1 2 _ rfl)) ?_
      refine WD.q rfl (.inr ⟨_, _, _, rfl, rfl, rfl⟩) rfl (fun _ h => h) (yl_move rfl) ?_
      refine WD.q rfl (.inr ⟨_, _, _, rfl, rfl, rfl⟩) rfl (fun _ h => h) (yl_move rfl) ?_
      refine WD.q rfl (.inr ⟨_, _, _, rfl, rfl, rfl⟩) rfl (fun _ h => h) (yl_iao es25 rfl rfl ha2 (by omega)) ?_
      refine WD.q rfl (.inr ⟨_, _, _, rfl, rfl, rfl⟩) rfl (fun _ h => h) (yl_fa fo43_2 rfl) ?_
      refine WD.q rfl (.inr ⟨_, _, _, rfl, rfl, rfl⟩) rfl (fun _ h => h) (yl_ld 1 na9 rfl rfl (hr2 2 _ rfl)) ?_
      refine WD.q rfl (.inr ⟨_, _, _, rfl, rfl, rfl⟩) rfl (fun _ h => h) (yl_nesY rfl rfl rfl) ?_
      exact GotD.intro 11 (fun _ h => h) rfl rfl rfl
    refine WD.q rfl (.inl rfl) rfl (fun _ h => h) (yl_move rfl) ?_
    apply WD.or 12 (x := false) rfl rfl rfl rfl rfl (.inl rfl) rfl (fun _ h => h) rfl rfl rfl rfl
    ·
      intro hg2
      refine WD.q rfl (.inr ⟨_, _, _, rfl, rfl, rfl⟩) rfl (fun _ h => h) (yl_move rfl) ?_
      refine WD.q rfl (.inr ⟨_, _, _, rfl, rfl, rfl⟩) rfl (fun _ h => h) (yl_move rfl) ?_
      refine WD.q rfl (.inr ⟨_, _, _, rfl, rfl, rfl⟩) rfl (fun _ h => h) (yl_iao es25 rfl rfl ha1 (by omega)) ?_
      refine WD.q rfl (.inr ⟨_, _, _, rfl, rfl, rfl⟩) rfl (fun _ h => h) (yl_fa fo43_3 rfl) ?_
      refine WD.q rfl (.inr ⟨_, _, _, rfl, rfl, rfl⟩) rfl (fun _ h => h) (yl_ld 0 na41 rfl rfl (hr1 3 _ rfl)) ?_
      refine WD.q rfl (.inr ⟨_, _, _, rfl, rfl, rfl⟩) rfl (fun _ h => h) (yl_move rfl) ?_
      refine WD.q rfl (.inr ⟨_, _, _, rfl, rfl, rfl⟩) rfl (fun _ h => h) (yl_move rfl) ?_
      refine WD.q rfl (.inr ⟨_, _, _, rfl, rfl, rfl⟩) rfl (fun _ h => h) (yl_iao es25 rfl rfl ha2 (by omega)) ?_
      refine WD.q rfl (.inr ⟨_, _, _, rfl, rfl, rfl⟩) rfl (fun _ h => h) (yl_fa fo43_3 rfl) ?_
      refine WD.q rfl (.inr ⟨_, _, _, rfl, rfl, rfl⟩) rfl (fun _ h => h) (yl_ld 1 na41 rfl rfl (hr2 3 _ rfl)) ?_
      refine WD.e rfl (fun _ h => h) ?_
      refine WL.callp (.inr ⟨_, _, _, rfl, rfl, rfl⟩) rfl en65 rfl (fun w hw => sameExprs_eq H1 H2 u1 v1 n1 m1 ke1 ke2 x.args w (hw.vs _ (by simp)) (hw.vs _ (by simp)) hs1 ht1) ?_
      refine WL.nil (WE.toD ?_)
      refine WD.q rfl (.inr ⟨_, _, _, rfl, rfl, rfl⟩) rfl (fun _ h => h) (yl_not rfl) ?_
      exact GotD.intro 12 (fun _ h => h) rfl rfl rfl
    refine WD.q rfl (.inl rfl) rfl (fun _ h => h) (yl_move rfl) ?_
    apply WD.or 12 (x := false) rfl rfl rfl rfl rfl (.inl rfl) rfl (fun _ h => h) rfl rfl rfl rfl
    ·
      intro hg3
      refine WD.q rfl (.inr ⟨_, _, _, rfl, rfl, rfl⟩) rfl (fun _ h => h) (yl_move rfl) ?_
      refine WD.q rfl (.inr ⟨_, _, _, rfl, rfl, rfl⟩) rfl (fun _ h => h) (yl_move rfl) ?_
      refine WD.q rfl (.inr ⟨_, _, _, rfl, rfl, rfl⟩) rfl (fun _ h => h) (yl_iao es25 rfl rfl ha1 (by omega)) ?_
      refine WD.q rfl (.inr ⟨_, _, _, rfl, rfl, rfl⟩) rfl (fun _ h => h) (yl_fa fo43_4 rfl) ?_
      refine WD.q rfl (.inr ⟨_, _, _, rfl, rfl, rfl⟩) rfl (fun _ h => h) (yl_ld 0 na25 rfl rfl (hr1 4 _ rfl)) ?_
      refine WD.q rfl (.inr ⟨_, _, _, rfl, rfl, rfl⟩) rfl (fun _ h => h) (yl_move rfl) ?_
      refine WD.q rfl (.inr ⟨_, _, _, rfl, rfl, rfl⟩) rfl (fun _ h => h) (yl_move rfl) ?_
      refine WD.q rfl (.inr ⟨_, _, _, rfl, rfl, rfl⟩) rfl (fun _ h => h) (yl_iao es25 rfl rfl ha2 (by omega)) ?_
      refine WD.q rfl (.inr ⟨_, _, _, rfl, rfl, rfl⟩) rfl (fun _ h => h) (yl_fa fo43_4 rfl) ?_
      refine WD.q rfl (.inr ⟨_, _, _, rfl, rfl, rfl⟩) rfl (fun _ h => h) (yl_ld 1 na25 rfl rfl (hr2 4 _ rfl)) ?_
      refine WD.e rfl (fun _ h => h) ?_
      refine WL.callp (.inr ⟨_, _, _, rfl, rfl, rfl⟩) rfl en35 rfl (fun w hw => ih k2 (by omega) u2 v2 n2 m2 j2 x.body w (hw.vs _ (by simp)) (hw.vs _ (by simp)) hs2 ht2) ?_
      refine WL.nil (WE.toD ?_)
      refine WD.q rfl (.inr ⟨_, _, _, rfl, rfl, rfl⟩) rfl (fun _ h => h) (yl_not rfl) ?_
      exact GotD.intro 12 (fun _ h => h) rfl rfl rfl
    refine WD.q rfl (.inl rfl) rfl (fun _ h => h) (yl_move rfl) ?_
    apply WD.or 12 (x := false) rfl rfl rfl rfl rfl (.inl rfl) rfl (fun _ h => h) rfl rfl rfl rfl
    ·
      intro hg4
      refine WD.q rfl (.inr ⟨_, _, _, rfl, rfl, rfl⟩) rfl (fun _ h => h) (yl_move rfl) ?_
      refine WD.q rfl (.inr ⟨_, _, _, rfl, rfl, rfl⟩) rfl (fun _ h => h) (yl_move rfl) ?_
      refine WD.q rfl (.inr ⟨_, _, _, rfl, rfl, rfl⟩) rfl (fun _ h => h) (yl_iao es25 rfl rfl ha1 (by omega)) ?_
      refine WD.q rfl (.inr ⟨_, _, _, rfl, rfl, rfl⟩) rfl (fun _ h => h) (yl_fa fo43_5 rfl) ?_
      refine WD.q rfl (.inr ⟨_, _, _, rfl, rfl, rfl⟩) rfl (fun _ h => h) (yl_ld 0 na25 rfl rfl (hr1 5 _ rfl)) ?_
      refine WD.q rfl (.inr ⟨_, _, _, rfl, rfl, rfl⟩) rfl (fun _ h => h) (yl_move rfl) ?_
      refine WD.q rfl (.inr ⟨_, _, _, rfl, rfl, rfl⟩) rfl (fun _ h => h) (yl_move rfl) ?_
      refine WD.q rfl (.inr ⟨_, _, _, rfl, rfl, rfl⟩) rfl (fun _ h => h) (yl_iao es25 rfl rfl ha2 (by omega)) ?_
      refine WD.q rfl (.inr ⟨_, _, _, rfl, rfl, rfl⟩) rfl (fun _ h => h) (yl_fa fo43_5 rfl) ?_
      refine WD.q rfl (.inr ⟨_, _, _, rfl, rfl, rfl⟩) rfl (fun _ h => h) (yl_ld 1 na25 rfl rfl (hr2 5 _ rfl)) ?_
      refine WD.e rfl (fun _ h => h) ?_
      refine WL.callp (.inr ⟨_, _, _, rfl, rfl, rfl⟩) rfl en35 rfl (fun w hw => ih k2 (by omega) u3 v3 n3 m3 j2 x.other w (hw.vs _ (by simp)) (hw.vs _ (by simp)) hs3 ht3) ?_
      refine WL.nil (WE.toD ?_)
      refine WD.q rfl (.inr ⟨_, _, _, rfl, rfl, rfl⟩) rfl (fun _ h => h) (yl_not rfl) ?_
      exact GotD.intro 12 (fun _ h => h) rfl rfl rfl
    refine WD.nil (fun _ h => h) ?_
    refine WE.then_normal ?_
    refine WC.condf rfl ?_
    refine WC.skip (WE.block_normal (WE.then_normal (WC.region ?_)))
    refine WL.val (.inl rfl) rfl (yl_move rfl) ?_
    refine WL.val (.inl rfl) rfl (yl_inc rfl rfl rfl (by omega)) ?_
    refine WL.val (.inl rfl) rfl (yl_assign rfl) ?_
    refine WL.nil ?_
    exact WE.again (i + 1) (by omega) (by omega) (sc rfl (sc rfl (sc rfl sn))) (fun _ h => h)
  ·
    refine WC.exit (WE.then_exit (WE.then_exit (WE.block_hit (WE.then_normal (WC.seq ?_)))))
    refine WC.region ?_
    refine WL.val (.inl rfl) rfl (yl_assign rfl) ?_
    refine WL.nil (WE.then_normal (WC.ret ?_))
    refine WE.ret1 rfl rfl fun w' hw => ?_
    exact ⟨rfl, hw.fr⟩
theorem sameModules_eq (H1 H2 : View) (ke1 ke2 ks1 ks2 : Nat) (r1 r2 : MAt) (m : TMod) (w : World) (hH1 : Le H1 w) (hH2 : Le H2 w) (hm1 : RdM ke1 ks1 H1 r1 m) (hm2 : RdM ke2 ks2 H2 r2 m) :
    Calls Tryz.prog 13 #[.agg (modV m r1).toArray, .agg (modV m r2).toArray] w fun e w' => e = .returned (.bool true) ∧ Ext w w' := by
  have cd1 := hm1.decls.cap
  have xd1 := hm1.decls.max
  have cd2 := hm2.decls.cap
  have xd2 := hm2.decls.max
  have cp1 := hm1.procs.cap
  have xp1 := hm1.procs.max
  have cp2 := hm2.procs.cap
  have xp2 := hm2.procs.max
  refine enter Tryz.func13 rfl 119 rfl rfl ?_
  refine WC.world (W' := Ws w [] [] [H1, H2]) (fun _ e => by subst e; exact Ws.init (by simp [hH1, hH2])) ?_
  refine WC.seq (WC.region ?_)
  refine WL.box (.inl rfl) rfl rfl fun b2 => ?_
  refine WL.box (.inl rfl) rfl rfl fun b3 => ?_
  refine WL.val (.inl rfl) rfl (yl_assign rfl) ?_
  refine WL.nil (WE.then_normal (WC.seq (WC.seq (WC.region ?_))))
  refine WL.val (.inl rfl) rfl (yl_fa fo27_0 rfl) ?_
  refine WL.val (.inl rfl) rfl (yl_ldk 1 rfl rfl rfl na9) ?_
  refine WL.val (.inl rfl) rfl (yl_fa fo27_0 rfl) ?_
  refine WL.val (.inl rfl) rfl (yl_ldk 0 rfl rfl rfl na9) ?_
  refine WL.val (.inl rfl) rfl (yl_nesY rfl rfl rfl) ?_
  refine WL.val (.inl rfl) rfl (yl_move rfl) ?_
  apply WL.or 6 (x := false) rfl rfl rfl rfl (.inl rfl) rfl rfl rfl rfl rfl
  ·
    intro hg0
    refine WL.val (.inr ⟨_, _, _, rfl, rfl, rfl⟩) rfl (yl_fa fo27_1 rfl) ?_
    refine WL.val (.inr ⟨_, _, _, rfl, rfl, rfl⟩) rfl (yl_ldk 1 rfl rfl rfl na22) ?_
    refine WL.val (.inr ⟨_, _, _, rfl, rfl, rfl⟩) rfl (yl_fa fo27_1 rfl) ?_
    refine WL.val (.inr ⟨_, _, _, rfl, rfl, rfl⟩) rfl (yl_ldk 0 rfl rfl rfl na22) ?_
    refine WL.callp (.inr ⟨_, _, _, rfl, rfl, rfl⟩) rfl en34 rfl (fun w hw => sameTexts_eq H1 H2 r1.a1 r2.a1 r1.c1 r2.c1 m.uses w (hw.vs _ (by simp)) (hw.vs _ (by simp)) hm1.uses hm2.uses) ?_
    refine WL.val (.inr ⟨_, _, _, rfl, rfl, rfl⟩) rfl (yl_not rfl) ?_
    exact Got.intro 6 rfl rfl rfl
  refine WL.val (.inl rfl) rfl (yl_move rfl) ?_
  apply WL.or 7 (x := false) rfl rfl rfl rfl (.inl rfl) rfl rfl rfl rfl rfl
  ·
    intro hg1
    refine WL.val (.inr ⟨_, _, _, rfl, rfl, rfl⟩) rfl (yl_fa fo27_2 rfl) ?_
    refine WL.val (.inr ⟨_, _, _, rfl, rfl, rfl⟩) rfl (yl_ldk 1 rfl rfl rfl na23) ?_
    refine WL.val (.inr ⟨_, _, _, rfl, rfl, rfl⟩) rfl (yl_len es23 rfl) ?_
    refine WL.val (.inr ⟨_, _, _, rfl, rfl, rfl⟩) rfl (yl_fa fo27_2 rfl) ?_
    refine WL.val (.inr ⟨_, _, _, rfl, rfl, rfl⟩) rfl (yl_ldk 0 rfl rfl rfl na23) ?_
    refine WL.val (.inr ⟨_, _, _, rfl, rfl, rfl⟩) rfl (yl_len es23 rfl) ?_
    refine WL.val (.inr ⟨_, _, _, rfl, rfl, rfl⟩) rfl (yl_neY rfl rfl rfl) ?_
    exact Got.intro 7 rfl rfl rfl
  refine WL.val (.inl rfl) rfl (yl_move rfl) ?_
  apply WL.or 7 (x := false) rfl rfl rfl rfl (.inl rfl) rfl rfl rfl rfl rfl
  ·
    intro hg2
    refine WL.val (.inr ⟨_, _, _, rfl, rfl, rfl⟩) rfl (yl_fa fo27_3 rfl) ?_
    refine WL.val (.inr ⟨_, _, _, rfl, rfl, rfl⟩) rfl (yl_ldk 1 rfl rfl rfl na24) ?_
    refine WL.val (.inr ⟨_, _, _, rfl, rfl, rfl⟩) rfl (yl_len es24 rfl) ?_
    refine WL.val (.inr ⟨_, _, _, rfl, rfl, rfl⟩) rfl (yl_fa fo27_3 rfl) ?_
    refine WL.val (.inr ⟨_, _, _, rfl, rfl, rfl⟩) rfl (yl_ldk 0 rfl rfl rfl na24) ?_
    refine WL.val (.inr ⟨_, _, _, rfl, rfl, rfl⟩) rfl (yl_len es24 rfl) ?_
    refine WL.val (.inr ⟨_, _, _, rfl, rfl, rfl⟩) rfl (yl_neY rfl rfl rfl) ?_
    exact Got.intro 7 rfl rfl rfl
  refine WL.val (.inl rfl) rfl (yl_move rfl) ?_
  apply WL.or 6 (x := false) rfl rfl rfl rfl (.inl rfl) rfl rfl rfl rfl rfl
  ·
    intro hg3
    refine WL.val (.inr ⟨_, _, _, rfl, rfl, rfl⟩) rfl (yl_fa fo27_4 rfl) ?_
    refine WL.val (.inr ⟨_, _, _, rfl, rfl, rfl⟩) rfl (yl_ldk 1 rfl rfl rfl na25) ?_
    refine WL.val (.inr ⟨_, _, _, rfl, rfl, rfl⟩) rfl (yl_fa fo27_4 rfl) ?_
    refine WL.val (.inr ⟨_, _, _, rfl, rfl, rfl⟩) rfl (yl_ldk 0 rfl rfl rfl na25) ?_
    refine WL.callp (.inr ⟨_, _, _, rfl, rfl, rfl⟩) rfl en35 rfl (fun w hw => sameBlocks_eq H1 H2 r1.a4 r2.a4 r1.c4 r2.c4 ke1 ke2 ks1 ks2 m.main w (hw.vs _ (by simp)) (hw.vs _ (by simp)) hm1.main hm2.main) ?_
    refine WL.val (.inr ⟨_, _, _, rfl, rfl, rfl⟩) rfl (yl_not rfl) ?_
    exact Got.intro 6 rfl rfl rfl
  refine WL.nil (WE.then_normal ?_)
  refine WC.condf rfl ?_
  refine WC.skip (WE.then_normal (WC.seq (WC.seq (WC.region ?_))))
  refine WL.val (.inl rfl) rfl (yl_assign rfl) ?_
  refine WL.nil (WE.then_normal (WC.block ?_))
  refine WC.loopK (ι := Nat) (fun i => [(5, .int .i64 (i : Int))]) [(2, _), (3, _)] (fun i => Ws w [] [blk b3 (.cells (modV m r2).toArray 27 (0, 0)), blk b2 (.cells (modV m r1).toArray 27 (0, 0))] [H1, H2]) (fun i => i ≤ m.decls.length) (fun i => m.decls.length - i) 0 (Nat.zero_le _) (sc rfl (sc rfl (sc rfl sn))) (fun _ h => h) ?_
  intro i hi
  refine WC.seq (WC.seq (WC.region ?_))
  refine WL.val (.inl rfl) rfl (yl_move rfl) ?_
  refine WL.val (.inl rfl) rfl (yl_fa fo27_2 rfl) ?_
  refine WL.val (.inl rfl) rfl (yl_ldk 1 rfl rfl rfl na23) ?_
  refine WL.val (.inl rfl) rfl (yl_len es23 rfl) ?_
  refine WL.val (.inl rfl) rfl (yl_lt rfl rfl) ?_
  refine WL.nil (WE.then_normal ?_)
  refine WC.cond rfl (fun hc1 => ?_) (fun hc1 => ?_)
  ·
    have hlt : i < m.decls.length := by simpa using hc1
    obtain ⟨x, hx⟩ : ∃ x, m.decls[i]? = some x := ⟨_, List.getElem?_eq_getElem hlt⟩
    obtain ⟨pb, po, ha1, hr1⟩ := hm1.decls.elt i x hx
    obtain ⟨qb, qo, ha2, hr2⟩ := hm2.decls.elt i x hx
    have hr1 : RdC H1 pb (po + i * 4) x.cells := hr1
    have hr2 : RdC H2 qb (qo + i * 4) x.cells := hr2
    refine WC.skip (WE.then_normal (WC.seq (WC.block (WC.seq ?_))))
    refine WC.draws0 [(0, true), (1, true), (2, true), (3, true), (4, true), (5, true), (6, true), (7, true), (8, true), (9, true), (10, true)] mixed (by kernel_rfl) (fun _ _ _ d _ h => by cases d <;> exact h) ?_
    refine WD.q rfl (.inl rfl) rfl (fun _ h => h) (yl_fa fo27_2 rfl) ?_
    refine WD.q rfl (.inl rfl) rfl (fun _ h => h) (yl_ldk 1 rfl rfl rfl na23) ?_
    refine WD.q rfl (.inl rfl) rfl (fun _ h => h) (yl_move rfl) ?_
    refine WD.q rfl (.inl rfl) rfl (fun _ h => h) (yl_iao es23 rfl rfl ha1 (by omega)) ?_
    refine WD.q rfl (.inl rfl) rfl (fun _ h => h) (yl_lda 0 ag53 rfl rfl rfl (hr1)) ?_
    refine WD.q rfl (.inl rfl) rfl (fun _ h => h) (yl_fa fo27_2 rfl) ?_
    refine WD.q rfl (.inl rfl) rfl (fun _ h => h) (yl_ldk 0 rfl rfl rfl na23) ?_
    refine WD.q rfl (.inl rfl) rfl (fun _ h => h) (yl_move rfl) ?_
    refine WD.q rfl (.inl rfl) rfl (fun _ h => h) (yl_iao es23 rfl rfl ha2 (by omega)) ?_
    refine WD.q rfl (.inl rfl) rfl (fun _ h => h) (yl_lda 1 ag53 rfl rfl rfl (hr2)) ?_
    refine WD.q rfl (.inl rfl) rfl (fun _ h => h) (yl_nestY fl53 rfl rfl rfl rfl) ?_
    refine WD.nil (fun _ h => h) ?_
    refine WE.then_normal ?_
    refine WC.condf rfl ?_
    refine WC.skip (WE.block_normal (WE.then_normal (WC.region ?_)))
    refine WL.val (.inl rfl) rfl (yl_move rfl) ?_
    refine WL.val (.inl rfl) rfl (yl_inc rfl rfl rfl (by omega)) ?_
    refine WL.val (.inl rfl) rfl (yl_assign rfl) ?_
    refine WL.nil ?_
    exact WE.again (i + 1) (by omega) (by omega) (sc rfl (sc rfl (sc rfl sn))) (fun _ h => h)
  ·
    refine WC.exit (WE.then_exit (WE.then_exit (WE.block_hit (WE.then_normal (WC.seq ?_)))))
    refine WC.seq (WC.region ?_)
    refine WL.val (.inl rfl) rfl (yl_assign rfl) ?_
    refine WL.nil (WE.then_normal (WC.block ?_))
    refine WC.loopK (ι := Nat) (fun j => [(6, .int .i64 (j : Int))]) [(2, _), (3, _)] (fun j => Ws w [] [blk b3 (.cells (modV m r2).toArray 27 (0, 0)), blk b2 (.cells (modV m r1).toArray 27 (0, 0))] [H1, H2]) (fun j => j ≤ m.procs.length) (fun j => m.procs.length - j) 0 (Nat.zero_le _) (sc rfl (sc rfl (sc rfl sn))) (fun _ h => h) ?_
    intro j hi
    refine WC.seq (WC.seq (WC.region ?_))
    refine WL.val (.inl rfl) rfl (yl_move rfl) ?_
    refine WL.val (.inl rfl) rfl (yl_fa fo27_3 rfl) ?_
    refine WL.val (.inl rfl) rfl (yl_ldk 1 rfl rfl rfl na24) ?_
    refine WL.val (.inl rfl) rfl (yl_len es24 rfl) ?_
    refine WL.val (.inl rfl) rfl (yl_lt rfl rfl) ?_
    refine WL.nil (WE.then_normal ?_)
    refine WC.cond rfl (fun hc3 => ?_) (fun hc3 => ?_)
    ·
      have hlt : j < m.procs.length := by simpa using hc3
      obtain ⟨x, hx⟩ : ∃ x, m.procs[j]? = some x := ⟨_, List.getElem?_eq_getElem hlt⟩
      obtain ⟨pb, po, ha1, hr1⟩ := hm1.procs.elt j x hx
      obtain ⟨qb, qo, ha2, hr2⟩ := hm2.procs.elt j x hx
      obtain ⟨u1, n1, u2, n2, u3, n3, hr1, hs1, hs2, hs3⟩ := hr1
      obtain ⟨v1, m1, v2, m2, v3, m3, hr2, ht1, ht2, ht3⟩ := hr2
      refine WC.skip (WE.then_normal (WC.seq (WC.block (WC.seq ?_))))
      refine WC.drawt0 (.q 0 (.q 1 (.q 2 (.q 3 (.q 4 (.q 5 (.q 6 (.q 7 (.q 8 (.q 9 (.e 10 (.e 11 (.e 12 (.e 13 .nil .stop) .stop) .stop) (.e 11 (.e 10 (.e 12 (.e 13 .nil .stop) .stop) .stop) .stop)))))))))))) mixed (by kernel_rfl) (fun _ _ _ d _ h => by cases d <;> exact h) ?_
      refine WT.q rfl (.inl rfl) rfl (fun _ h => h) (yl_fa fo27_3 rfl) ?_
      refine WT.q rfl (.inl rfl) rfl (fun _ h => h) (yl_ldk 1 rfl rfl rfl na24) ?_
      refine WT.q rfl (.inl rfl) rfl (fun _ h => h) (yl_move rfl) ?_
      refine WT.q rfl (.inl rfl) rfl (fun _ h => h) (yl_iao es24 rfl rfl ha1 (by omega)) ?_
      refine WT.q rfl (.inl rfl) rfl (fun _ h => h) (yl_lda 0 ag56 rfl rfl rfl (hr1)) ?_
      refine WT.q rfl (.inl rfl) rfl (fun _ h => h) (yl_fa fo27_3 rfl) ?_
      refine WT.q rfl (.inl rfl) rfl (fun _ h => h) (yl_ldk 0 rfl rfl rfl na24) ?_
      refine WT.q rfl (.inl rfl) rfl (fun _ h => h) (yl_move rfl) ?_
      refine WT.q rfl (.inl rfl) rfl (fun _ h => h) (yl_iao es24 rfl rfl ha2 (by omega)) ?_
      refine WT.q rfl (.inl rfl) rfl (fun _ h => h) (yl_lda 1 ag56 rfl rfl rfl (hr2)) ?_
      refine WT.e rfl (fun _ h => h) ?_ ?_
      ·
        refine WL.alloc (.inl rfl) rfl zr56 fun b7 => ?_
        refine WL.nil (WE.toT ?_)
        refine WT.e rfl (fun _ h => by have h := Ws.drop (L := [_]) (L' := _) h; exact h) ?_ WT.stop
        refine WL.alloc (.inl rfl) rfl zr56 fun b8 => ?_
        refine WL.nil (WE.toT ?_)
        refine WT.e rfl (fun _ h => by have h := Ws.drop (L := [_, _]) (L' := _) h; exact h) ?_ WT.stop
        refine WL.store 1 (.inl rfl) rfl rfl rfl sz56 rfl rfl rfl ?_
        refine WL.nil (WE.toT ?_)
        refine WT.e rfl (fun _ h => by have h := Ws.drop (L := [_, _]) (L' := _) h; exact h) ?_ WT.stop
        refine WL.store 0 (.inl rfl) rfl rfl rfl sz56 rfl rfl rfl ?_
        refine WL.nil (WE.toT ?_)
        refine WT.nil (fun _ h => by have h := Ws.drop (L := [_, _]) (L' := _) h; exact h) ?_
        refine WE.then_normal (WC.seq ?_)
        refine WC.reblk 1 (.cells (procV x u1 n1 u2 n2 u3 n3).toArray 56 (0, 0)) rfl rfl ?_
        refine WC.reblk 0 (.cells (procV x v1 m1 v2 m2 v3 m3).toArray 56 (0, 0)) rfl rfl ?_
        refine WC.region ?_
        refine WL.val (.inl rfl) rfl (yl_fa fo56_0 rfl) ?_
        refine WL.val (.inl rfl) rfl (yl_ldk 1 rfl rfl rfl na9) ?_
        refine WL.val (.inl rfl) rfl (yl_fa fo56_0 rfl) ?_
        refine WL.val (.inl rfl) rfl (yl_ldk 0 rfl rfl rfl na9) ?_
        refine WL.val (.inl rfl) rfl (yl_nesY rfl rfl rfl) ?_
        refine WL.val (.inl rfl) rfl (yl_move rfl) ?_
        apply WL.or 5 (x := false) rfl rfl rfl rfl (.inl rfl) rfl rfl rfl rfl rfl
        ·
          intro hg4
          refine WL.val (.inr ⟨_, _, _, rfl, rfl, rfl⟩) rfl (yl_fa fo56_1 rfl) ?_
          refine WL.val (.inr ⟨_, _, _, rfl, rfl, rfl⟩) rfl (yl_ldk 1 rfl rfl rfl na4) ?_
          refine WL.val (.inr ⟨_, _, _, rfl, rfl, rfl⟩) rfl (yl_fa fo56_1 rfl) ?_
          refine WL.val (.inr ⟨_, _, _, rfl, rfl, rfl⟩) rfl (yl_ldk 0 rfl rfl rfl na4) ?_
          refine WL.val (.inr ⟨_, _, _, rfl, rfl, rfl⟩) rfl (yl_nebY ub4 rfl rfl rfl) ?_
          exact Got.intro 5 rfl rfl rfl
        refine WL.val (.inl rfl) rfl (yl_move rfl) ?_
        apply WL.or 6 (x := false) rfl rfl rfl rfl (.inl rfl) rfl rfl rfl rfl rfl
        ·
          intro hg5
          refine WL.val (.inr ⟨_, _, _, rfl, rfl, rfl⟩) rfl (yl_fa fo56_2 rfl) ?_
          refine WL.val (.inr ⟨_, _, _, rfl, rfl, rfl⟩) rfl (yl_ldk 1 rfl rfl rfl na22) ?_
          refine WL.val (.inr ⟨_, _, _, rfl, rfl, rfl⟩) rfl (yl_fa fo56_2 rfl) ?_
          refine WL.val (.inr ⟨_, _, _, rfl, rfl, rfl⟩) rfl (yl_ldk 0 rfl rfl rfl na22) ?_
          refine WL.callp (.inr ⟨_, _, _, rfl, rfl, rfl⟩) rfl en34 rfl (fun w hw => sameTexts_eq H1 H2 u1 v1 n1 m1 x.params w (hw.vs _ (by simp)) (hw.vs _ (by simp)) hs1 ht1) ?_
          refine WL.val (.inr ⟨_, _, _, rfl, rfl, rfl⟩) rfl (yl_not rfl) ?_
          exact Got.intro 6 rfl rfl rfl
        refine WL.val (.inl rfl) rfl (yl_move rfl) ?_
        apply WL.or 6 (x := false) rfl rfl rfl rfl (.inl rfl) rfl rfl rfl rfl rfl
        ·
          intro hg6
          refine WL.val (.inr ⟨_, _, _, rfl, rfl, rfl⟩) rfl (yl_fa fo56_3 rfl) ?_
          refine WL.val (.inr ⟨_, _, _, rfl, rfl, rfl⟩) rfl (yl_ldk 1 rfl rfl rfl na22) ?_
          refine WL.val (.inr ⟨_, _, _, rfl, rfl, rfl⟩) rfl (yl_fa fo56_3 rfl) ?_
          refine WL.val (.inr ⟨_, _, _, rfl, rfl, rfl⟩) rfl (yl_ldk 0 rfl rfl rfl na22) ?_
          refine WL.callp (.inr ⟨_, _, _, rfl, rfl, rfl⟩) rfl en34 rfl (fun w hw => sameTexts_eq H1 H2 u2 v2 n2 m2 x.locs w (hw.vs _ (by simp)) (hw.vs _ (by simp)) hs2 ht2) ?_
          refine WL.val (.inr ⟨_, _, _, rfl, rfl, rfl⟩) rfl (yl_not rfl) ?_
          exact Got.intro 6 rfl rfl rfl
        refine WL.val (.inl rfl) rfl (yl_move rfl) ?_
        apply WL.or 6 (x := false) rfl rfl rfl rfl (.inl rfl) rfl rfl rfl rfl rfl
        ·
          intro hg7
          refine WL.val (.inr ⟨_, _, _, rfl, rfl, rfl⟩) rfl (yl_fa fo56_4 rfl) ?_
          refine WL.val (.inr ⟨_, _, _, rfl, rfl, rfl⟩) rfl (yl_ldk 1 rfl rfl rfl na25) ?_
          refine WL.val (.inr ⟨_, _, _, rfl, rfl, rfl⟩) rfl (yl_fa fo56_4 rfl) ?_
          refine WL.val (.inr ⟨_, _, _, rfl, rfl, rfl⟩) rfl (yl_ldk 0 rfl rfl rfl na25) ?_
          refine WL.callp (.inr ⟨_, _, _, rfl, rfl, rfl⟩) rfl en35 rfl (fun w hw => sameBlocks_eq H1 H2 u3 v3 n3 m3 ke1 ke2 ks1 ks2 x.body w (hw.vs _ (by simp)) (hw.vs _ (by simp)) hs3 ht3) ?_
          refine WL.val (.inr ⟨_, _, _, rfl, rfl, rfl⟩) rfl (yl_not rfl) ?_
          exact Got.intro 6 rfl rfl rfl
        refine WL.nil (WE.then_normal ?_)
        refine WC.condf rfl ?_
        refine WC.skip (WE.block_normal (WE.then_normal (WC.region ?_)))
        refine WL.val (.inl rfl) rfl (yl_move rfl) ?_
        refine WL.val (.inl rfl) rfl (yl_inc rfl rfl rfl (by omega)) ?_
        refine WL.val (.inl rfl) rfl (yl_assign rfl) ?_
        refine WL.nil ?_
        exact WE.again (j + 1) (by omega) (by omega) (sc rfl (sc rfl (sc rfl sn))) (fun _ h => by
            have h := h.fronti 3 rfl
            have h := h.fronti 3 rfl
            have h := Ws.keep (L := [_, _]) h
            have h := Ws.drops h (Vs' := [H1, H2]) (by simp)
            exact h)
      refine WT.e rfl (fun _ h => h) ?_ WT.stop
      refine WL.alloc (.inl rfl) rfl zr56 fun b8 => ?_
      refine WL.nil (WE.toT ?_)
      refine WT.e rfl (fun _ h => by have h := Ws.drop (L := [_]) (L' := _) h; exact h) ?_ WT.stop
      refine WL.alloc (.inl rfl) rfl zr56 fun b7 => ?_
      refine WL.nil (WE.toT ?_)
      refine WT.e rfl (fun _ h => by have h := Ws.drop (L := [_, _]) (L' := _) h; exact h) ?_ WT.stop
      refine WL.store 0 (.inl rfl) rfl rfl rfl sz56 rfl rfl rfl ?_
      refine WL.nil (WE.toT ?_)
      refine WT.e rfl (fun _ h => by have h := Ws.drop (L := [_, _]) (L' := _) h; exact h) ?_ WT.stop
      refine WL.store 1 (.inl rfl) rfl rfl rfl sz56 rfl rfl rfl ?_
      refine WL.nil (WE.toT ?_)
      refine WT.nil (fun _ h => by have h := Ws.drop (L := [_, _]) (L' := _) h; exact h) ?_
      refine WE.then_normal (WC.seq ?_)
      refine WC.reblk 0 (.cells (procV x u1 n1 u2 n2 u3 n3).toArray 56 (0, 0)) rfl rfl ?_
      refine WC.reblk 1 (.cells (procV x v1 m1 v2 m2 v3 m3).toArray 56 (0, 0)) rfl rfl ?_
      refine WC.region ?_
      refine WL.val (.inl rfl) rfl (yl_fa fo56_0 rfl) ?_
      refine WL.val (.inl rfl) rfl (yl_ldk 0 rfl rfl rfl na9) ?_
      refine WL.val (.inl rfl) rfl (yl_fa fo56_0 rfl) ?_
      refine WL.val (.inl rfl) rfl (yl_ldk 1 rfl rfl rfl na9) ?_
      refine WL.val (.inl rfl) rfl (yl_nesY rfl rfl rfl) ?_
      refine WL.val (.inl rfl) rfl (yl_move rfl) ?_
      apply WL.or 5 (x := false) rfl rfl rfl rfl (.inl rfl) rfl rfl rfl rfl rfl
      ·
        intro hg4
        refine WL.val (.inr ⟨_, _, _, rfl, rfl, rfl⟩) rfl (yl_fa fo56_1 rfl) ?_
        refine WL.val (.inr ⟨_, _, _, rfl, rfl, rfl⟩) rfl (yl_ldk 0 rfl rfl rfl na4) ?_
        refine WL.val (.inr ⟨_, _, _, rfl, rfl, rfl⟩) rfl (yl_fa fo56_1 rfl) ?_
        refine WL.val (.inr ⟨_, _, _, rfl, rfl, rfl⟩) rfl (yl_ldk 1 rfl rfl rfl na4) ?_
        refine WL.val (.inr ⟨_, _, _, rfl, rfl, rfl⟩) rfl (yl_nebY ub4 rfl rfl rfl) ?_
        exact Got.intro 5 rfl rfl rfl
      refine WL.val (.inl rfl) rfl (yl_move rfl) ?_
      apply WL.or 6 (x := false) rfl rfl rfl rfl (.inl rfl) rfl rfl rfl rfl rfl
      ·
        intro hg5
        refine WL.val (.inr ⟨_, _, _, rfl, rfl, rfl⟩) rfl (yl_fa fo56_2 rfl) ?_
        refine WL.val (.inr ⟨_, _, _, rfl, rfl, rfl⟩) rfl (yl_ldk 0 rfl rfl rfl na22) ?_
        refine WL.val (.inr ⟨_, _, _, rfl, rfl, rfl⟩) rfl (yl_fa fo56_2 rfl) ?_
        refine WL.val (.inr ⟨_, _, _, rfl, rfl, rfl⟩) rfl (yl_ldk 1 rfl rfl rfl na22) ?_
        refine WL.callp (.inr ⟨_, _, _, rfl, rfl, rfl⟩) rfl en34 rfl (fun w hw => sameTexts_eq H1 H2 u1 v1 n1 m1 x.params w (hw.vs _ (by simp)) (hw.vs _ (by simp)) hs1 ht1) ?_
        refine WL.val (.inr ⟨_, _, _, rfl, rfl, rfl⟩) rfl (yl_not rfl) ?_
        exact Got.intro 6 rfl rfl rfl
      refine WL.val (.inl rfl) rfl (yl_move rfl) ?_
      apply WL.or 6 (x := false) rfl rfl rfl rfl (.inl rfl) rfl rfl rfl rfl rfl
      ·
        intro hg6
        refine WL.val (.inr ⟨_, _, _, rfl, rfl, rfl⟩) rfl (yl_fa fo56_3 rfl) ?_
        refine WL.val (.inr ⟨_, _, _, rfl, rfl, rfl⟩) rfl (yl_ldk 0 rfl rfl rfl na22) ?_
        refine WL.val (.inr ⟨_, _, _, rfl, rfl, rfl⟩) rfl (yl_fa fo56_3 rfl) ?_
        refine WL.val (.inr ⟨_, _, _, rfl, rfl, rfl⟩) rfl (yl_ldk 1 rfl rfl rfl na22) ?_
        refine WL.callp (.inr ⟨_, _, _, rfl, rfl, rfl⟩) rfl en34 rfl (fun w hw => sameTexts_eq H1 H2 u2 v2 n2 m2 x.locs w (hw.vs _ (by simp)) (hw.vs _ (by simp)) hs2 ht2) ?_
        refine WL.val (.inr ⟨_, _, _, rfl, rfl, rfl⟩) rfl (yl_not rfl) ?_
        exact Got.intro 6 rfl rfl rfl
      refine WL.val (.inl rfl) rfl (yl_move rfl) ?_
      apply WL.or 6 (x := false) rfl rfl rfl rfl (.inl rfl) rfl rfl rfl rfl rfl
      ·
        intro hg7
        refine WL.val (.inr ⟨_, _, _, rfl, rfl, rfl⟩) rfl (yl_fa fo56_4 rfl) ?_
        refine WL.val (.inr ⟨_, _, _, rfl, rfl, rfl⟩) rfl (yl_ldk 0 rfl rfl rfl na25) ?_
        refine WL.val (.inr ⟨_, _, _, rfl, rfl, rfl⟩) rfl (yl_fa fo56_4 rfl) ?_
        refine WL.val (.inr ⟨_, _, _, rfl, rfl, rfl⟩) rfl (yl_ldk 1 rfl rfl rfl na25) ?_
        refine WL.callp (.inr ⟨_, _, _, rfl, rfl, rfl⟩) rfl en35 rfl (fun w hw => sameBlocks_eq H1 H2 u3 v3 n3 m3 ke1 ke2 ks1 ks2 x.body w (hw.vs _ (by simp)) (hw.vs _ (by simp)) hs3 ht3) ?_
        refine WL.val (.inr ⟨_, _, _, rfl, rfl, rfl⟩) rfl (yl_not rfl) ?_
        exact Got.intro 6 rfl rfl rfl
      refine WL.nil (WE.then_normal ?_)
      refine WC.condf rfl ?_
      refine WC.skip (WE.block_normal (WE.then_normal (WC.region ?_)))
      refine WL.val (.inl rfl) rfl (yl_move rfl) ?_
      refine WL.val (.inl rfl) rfl (yl_inc rfl rfl rfl (by omega)) ?_
      refine WL.val (.inl rfl) rfl (yl_assign rfl) ?_
      refine WL.nil ?_
      exact WE.again (j + 1) (by omega) (by omega) (sc rfl (sc rfl (sc rfl sn))) (fun _ h => by
          have h := h.fronti 3 rfl
          have h := h.fronti 3 rfl
          have h := Ws.keep (L := [_, _]) h
          have h := Ws.drops h (Vs' := [H1, H2]) (by simp)
          exact h)
    ·
      refine WC.exit (WE.then_exit (WE.then_exit (WE.block_hit (WE.then_normal (WC.seq ?_)))))
      refine WC.region ?_
      refine WL.val (.inl rfl) rfl (yl_assign rfl) ?_
      refine WL.nil (WE.then_normal (WC.ret ?_))
      refine WE.ret1 rfl rfl fun w' hw => ?_
      exact ⟨rfl, hw.fr⟩
end Go.Proofs.YtjfldjidhkfnbaaGreatDoor
end
section
namespace Go.Proofs.YtjfldjidhkfnbaaGreatDoor
open Go.Bw
set_option linter.unusedVariables false
set_option linter.unusedSimpArgs false
def cntM : TMod := (⟨[99, 110, 116], [], [(⟨1, [107], true, 3⟩ : TDecl), (⟨2, [115, 117, 109], true, 0⟩ : TDecl), (⟨3, [116], true, 4⟩ : TDecl)], [(⟨[100, 111, 119, 110], true, [[110]], [[105]], [(TStmt.mk 1 [] [105] [(TExpr.mk 3 0 [] [110] [])] [] []), (TStmt.mk 5 [] [] [(TExpr.mk 3 0 [] [105] [])] [(TStmt.mk 1 [] [115, 117, 109] [(TExpr.mk 9 0 [] [] [(TExpr.mk 3 0 [] [115, 117, 109] []), (TExpr.mk 3 0 [] [105] [])])] [] []), (TStmt.mk 1 [] [105] [(TExpr.mk 10 0 [] [] [(TExpr.mk 3 0 [] [105] []), (TExpr.mk 1 1 [] [] [])])] [] [])] []), (TStmt.mk 6 [] [] [(TExpr.mk 3 0 [] [115, 117, 109] [])] [] [])]⟩ : TProc)], []⟩ : TMod)
def cntS : Tx := [109, 111, 100, 117, 108, 101, 32, 99, 110, 116, 32, 123, 32, 112, 117, 98, 32, 99, 111, 110, 115, 116, 32, 107, 32, 61, 32, 51, 32, 59, 32, 112, 117, 98, 32, 118, 97, 114, 32, 115, 117, 109, 32, 59, 32, 112, 117, 98, 32, 97, 114, 114, 97, 121, 32, 116, 32, 91, 32, 52, 32, 93, 32, 59, 32, 112, 117, 98, 32, 112, 114, 111, 99, 32, 100, 111, 119, 110, 32, 40, 32, 110, 32, 41, 32, 108, 111, 99, 97, 108, 32, 105, 32, 59, 32, 123, 32, 105, 32, 61, 32, 110, 32, 59, 32, 119, 104, 105, 108, 101, 32, 105, 32, 123, 32, 115, 117, 109, 32, 61, 32, 40, 32, 115, 117, 109, 32, 43, 32, 105, 32, 41, 32, 59, 32, 105, 32, 61, 32, 40, 32, 105, 32, 45, 32, 49, 32, 41, 32, 59, 32, 125, 32, 114, 101, 116, 117, 114, 110, 32, 115, 117, 109, 32, 59, 32, 125, 32, 109, 97, 105, 110, 32, 123, 32, 125, 32, 125]
def topS : Tx := [109, 111, 100, 117, 108, 101, 32, 116, 111, 112, 123, 117, 115, 101, 32, 99, 110, 116, 59, 109, 97, 105, 110, 123, 99, 110, 116, 46, 116, 91, 49, 93, 61, 99, 110, 116, 46, 100, 111, 119, 110, 40, 99, 110, 116, 46, 107, 41, 59, 111, 117, 116, 32, 99, 110, 116, 46, 116, 91, 105, 110, 93, 59, 105, 102, 40, 99, 110, 116, 46, 115, 117, 109, 61, 54, 41, 123, 111, 117, 116, 32, 55, 59, 125, 101, 108, 115, 101, 123, 111, 117, 116, 32, 56, 59, 125, 125, 125]
def badS : Tx := [109, 111, 100, 117, 108, 101, 32, 120, 32, 123, 32, 109, 97, 105, 110, 32, 123, 32, 105, 102, 32, 49, 32, 123, 32, 125, 32, 101, 108, 115, 101, 32, 123, 32, 125, 32, 125, 32, 125]
theorem cnt_show : showM cntM = (cntS, 0) := by decide +kernel
theorem cnt_w : wM cntM ≤ 109951162777 := by decide +kernel
theorem cnt_check : checkM cntM = 0 := by decide +kernel
theorem cnt_parse : parseM cntS = (cntM, 0) := by
  have h : J (modW cntM) = cntS := by decide +kernel
  rw [← h]
  exact parse_show cnt_check (by rw [h]; decide +kernel)
theorem bad_parse : (parseM badS).2 = 1 := by decide +kernel
theorem top_parse : (parseM topS).2 = 0 := by decide +kernel
theorem top_len : (parseM topS).1.main.length = 3 := by decide +kernel
theorem top_mod : ((parseM topS).1.main[0]?).map TStmt.mod = some [99, 110, 116] := by decide +kernel
theorem top_first : ∃ x, (parseM topS).1.main[0]? = some x ∧ x.mod = [99, 110, 116] := by
  have h := top_mod
  cases hx : (parseM topS).1.main[0]? with
  | none => rw [hx] at h; cases h
  | some x => rw [hx] at h; exact ⟨x, rfl, by simpa using h⟩
theorem en14 : Enters Tryz.prog 14 := enters_of Tryz.func14 (by kernel_rfl) rfl
theorem en9 : Enters Tryz.prog 9 := enters_of Tryz.func9 (by kernel_rfl) rfl
theorem en11 : Enters Tryz.prog 11 := enters_of Tryz.func11 (by kernel_rfl) rfl
theorem en15 : Enters Tryz.prog 15 := enters_of Tryz.func15 (by kernel_rfl) rfl
theorem en16 : Enters Tryz.prog 16 := enters_of Tryz.func16 (by kernel_rfl) rfl
theorem en13 : Enters Tryz.prog 13 := enters_of Tryz.func13 (by kernel_rfl) rfl
theorem counter_any (w : World) :
    Calls Tryz.prog 14 #[] w fun e w' => ∃ r : MAt, e = .returned (.agg (modV cntM r).toArray) ∧ Ext w w' ∧ RdM 8 6 (nv w w') r cntM := by
  refine enter Tryz.func14 rfl 33 rfl rfl ?_
  refine WC.world (W' := Ws w [] [] []) (fun _ e => by subst e; exact Ws.init (by simp)) ?_
  refine WC.seq (WC.region ?_)
  refine WL.alloc (.inl rfl) rfl zr27 fun b0 => ?_
  refine WL.nil (WE.then_normal (WC.seq (WC.region ?_)))
  refine WL.val (.inl rfl) rfl (yl_build zr53 pl53 rfl rfl) ?_
  refine WL.val (.inl rfl) rfl (yl_build zr53 pl53 rfl rfl) ?_
  refine WL.val (.inl rfl) rfl (yl_build zr53 pl53 rfl rfl) ?_
  refine WL.bsliceF (.inl rfl) rfl el23 rfl rfl rfl rfl fun b4 => ?_
  refine WL.blkN (rd := rdDecl) (f := TDecl.cells) (m := 3) 0 [(⟨1, [107], true, 3⟩ : TDecl), (⟨2, [115, 117, 109], true, 0⟩ : TDecl), (⟨3, [116], true, 4⟩ : TDecl)] rfl rfl (fun _ hk => by cases hk) TDecl.cells_len (fun _ _ _ _ h => h) (show 3 ≤ 3 by decide) (by decide) fun H4 fH4 hH4 => ?_
  refine WL.bsliceF (.inl rfl) rfl el22 rfl rfl rfl rfl fun b5 => ?_
  refine WL.blkN (rd := rdStr) (f := strC) (m := 1) 0 [[110]] rfl rfl (fun _ hk => by cases hk) strC_len (fun _ _ _ _ h => h) (show 1 ≤ 1 by decide) (by decide) fun H5 fH5 hH5 => ?_
  refine WL.bsliceF (.inl rfl) rfl el22 rfl rfl rfl rfl fun b6 => ?_
  refine WL.blkN (rd := rdStr) (f := strC) (m := 1) 0 [[105]] rfl rfl (fun _ hk => by cases hk) strC_len (fun _ _ _ _ h => h) (show 1 ≤ 1 by decide) (by decide) fun H6 fH6 hH6 => ?_
  refine WL.val (.inl rfl) rfl (yl_build zr81 pl81 rfl rfl) ?_
  refine WL.bsliceF (.inl rfl) rfl el41 rfl rfl rfl rfl fun b8 => ?_
  refine WL.blkN (rd := rdXE) (f := XE.cells) (m := 1) 0 [((TExpr.mk 3 0 [] [110] []), none, 0)] rfl rfl (fun _ hk => by cases hk) XE.cells_len (fun _ _ _ _ h => h) (show 1 ≤ 1 by decide) (by decide) fun H8 fH8 hH8 => ?_
  refine WL.val (.inl rfl) rfl (yl_build zr43 pl43 rfl rfl) ?_
  refine WL.val (.inl rfl) rfl (yl_build zr81 pl81 rfl rfl) ?_
  refine WL.bsliceF (.inl rfl) rfl el41 rfl rfl rfl rfl fun b11 => ?_
  refine WL.blkN (rd := rdXE) (f := XE.cells) (m := 1) 0 [((TExpr.mk 3 0 [] [105] []), none, 0)] rfl rfl (fun _ hk => by cases hk) XE.cells_len (fun _ _ _ _ h => h) (show 1 ≤ 1 by decide) (by decide) fun H11 fH11 hH11 => ?_
  refine WL.val (.inl rfl) rfl (yl_build zr81 pl81 rfl rfl) ?_
  refine WL.val (.inl rfl) rfl (yl_build zr81 pl81 rfl rfl) ?_
  refine WL.bsliceF (.inl rfl) rfl el41 rfl rfl rfl rfl fun b14 => ?_
  refine WL.blkN (rd := rdXE) (f := XE.cells) (m := 2) 0 [((TExpr.mk 3 0 [] [115, 117, 109] []), none, 0), ((TExpr.mk 3 0 [] [105] []), none, 0)] rfl rfl (fun _ hk => by cases hk) XE.cells_len (fun _ _ _ _ h => h) (show 2 ≤ 2 by decide) (by decide) fun H14 fH14 hH14 => ?_
  refine WL.val (.inl rfl) rfl (yl_build zr81 pl81 rfl rfl) ?_
  refine WL.bsliceF (.inl rfl) rfl el41 rfl rfl rfl rfl fun b16 => ?_
  refine WL.blkN (rd := rdXE) (f := XE.cells) (m := 1) 0 [((TExpr.mk 9 0 [] [] [(TExpr.mk 3 0 [] [115, 117, 109] []), (TExpr.mk 3 0 [] [105] [])]), (some ⟨b14, 0, none⟩), 2)] rfl rfl (fun _ hk => by cases hk) XE.cells_len (fun _ _ _ _ h => h) (show 1 ≤ 1 by decide) (by decide) fun H16 fH16 hH16 => ?_
  refine WL.val (.inl rfl) rfl (yl_build zr43 pl43 rfl rfl) ?_
  refine WL.val (.inl rfl) rfl (yl_build zr81 pl81 rfl rfl) ?_
  refine WL.val (.inl rfl) rfl (yl_build zr81 pl81 rfl rfl) ?_
  refine WL.bsliceF (.inl rfl) rfl el41 rfl rfl rfl rfl fun b20 => ?_
  refine WL.blkN (rd := rdXE) (f := XE.cells) (m := 2) 0 [((TExpr.mk 3 0 [] [105] []), none, 0), ((TExpr.mk 1 1 [] [] []), none, 0)] rfl rfl (fun _ hk => by cases hk) XE.cells_len (fun _ _ _ _ h => h) (show 2 ≤ 2 by decide) (by decide) fun H20 fH20 hH20 => ?_
  refine WL.val (.inl rfl) rfl (yl_build zr81 pl81 rfl rfl) ?_
  refine WL.bsliceF (.inl rfl) rfl el41 rfl rfl rfl rfl fun b22 => ?_
  refine WL.blkN (rd := rdXE) (f := XE.cells) (m := 1) 0 [((TExpr.mk 10 0 [] [] [(TExpr.mk 3 0 [] [105] []), (TExpr.mk 1 1 [] [] [])]), (some ⟨b20, 0, none⟩), 2)] rfl rfl (fun _ hk => by cases hk) XE.cells_len (fun _ _ _ _ h => h) (show 1 ≤ 1 by decide) (by decide) fun H22 fH22 hH22 => ?_
  refine WL.val (.inl rfl) rfl (yl_build zr43 pl43 rfl rfl) ?_
  refine WL.bsliceF (.inl rfl) rfl el25 rfl rfl rfl rfl fun b24 => ?_
  refine WL.blkN (rd := rdSX) (f := SX.cells) (m := 2) 0 [((TStmt.mk 1 [] [115, 117, 109] [(TExpr.mk 9 0 [] [] [(TExpr.mk 3 0 [] [115, 117, 109] []), (TExpr.mk 3 0 [] [105] [])])] [] []), (⟨((some ⟨b16, 0, none⟩), 1), (none, 0), (none, 0)⟩ : SAt)), ((TStmt.mk 1 [] [105] [(TExpr.mk 10 0 [] [] [(TExpr.mk 3 0 [] [105] []), (TExpr.mk 1 1 [] [] [])])] [] []), (⟨((some ⟨b22, 0, none⟩), 1), (none, 0), (none, 0)⟩ : SAt))] rfl rfl (fun _ hk => by cases hk) SX.cells_len (fun _ _ _ _ h => h) (show 2 ≤ 2 by decide) (by decide) fun H24 fH24 hH24 => ?_
  refine WL.val (.inl rfl) rfl (yl_build zr43 pl43 rfl rfl) ?_
  refine WL.val (.inl rfl) rfl (yl_build zr81 pl81 rfl rfl) ?_
  refine WL.bsliceF (.inl rfl) rfl el41 rfl rfl rfl rfl fun b27 => ?_
  refine WL.blkN (rd := rdXE) (f := XE.cells) (m := 1) 0 [((TExpr.mk 3 0 [] [115, 117, 109] []), none, 0)] rfl rfl (fun _ hk => by cases hk) XE.cells_len (fun _ _ _ _ h => h) (show 1 ≤ 1 by decide) (by decide) fun H27 fH27 hH27 => ?_
  refine WL.val (.inl rfl) rfl (yl_build zr43 pl43 rfl rfl) ?_
  refine WL.bsliceF (.inl rfl) rfl el25 rfl rfl rfl rfl fun b29 => ?_
  refine WL.blkN (rd := rdSX) (f := SX.cells) (m := 3) 0 [((TStmt.mk 1 [] [105] [(TExpr.mk 3 0 [] [110] [])] [] []), (⟨((some ⟨b8, 0, none⟩), 1), (none, 0), (none, 0)⟩ : SAt)), ((TStmt.mk 5 [] [] [(TExpr.mk 3 0 [] [105] [])] [(TStmt.mk 1 [] [115, 117, 109] [(TExpr.mk 9 0 [] [] [(TExpr.mk 3 0 [] [115, 117, 109] []), (TExpr.mk 3 0 [] [105] [])])] [] []), (TStmt.mk 1 [] [105] [(TExpr.mk 10 0 [] [] [(TExpr.mk 3 0 [] [105] []), (TExpr.mk 1 1 [] [] [])])] [] [])] []), (⟨((some ⟨b11, 0, none⟩), 1), ((some ⟨b24, 0, none⟩), 2), (none, 0)⟩ : SAt)), ((TStmt.mk 6 [] [] [(TExpr.mk 3 0 [] [115, 117, 109] [])] [] []), (⟨((some ⟨b27, 0, none⟩), 1), (none, 0), (none, 0)⟩ : SAt))] rfl rfl (fun _ hk => by cases hk) SX.cells_len (fun _ _ _ _ h => h) (show 3 ≤ 3 by decide) (by decide) fun H29 fH29 hH29 => ?_
  refine WL.val (.inl rfl) rfl (yl_build zr56 pl56 rfl rfl) ?_
  refine WL.bsliceF (.inl rfl) rfl el24 rfl rfl rfl rfl fun b31 => ?_
  refine WL.blkN (rd := rdPX) (f := PX.cells) (m := 1) 0 [((⟨[100, 111, 119, 110], true, [[110]], [[105]], [(TStmt.mk 1 [] [105] [(TExpr.mk 3 0 [] [110] [])] [] []), (TStmt.mk 5 [] [] [(TExpr.mk 3 0 [] [105] [])] [(TStmt.mk 1 [] [115, 117, 109] [(TExpr.mk 9 0 [] [] [(TExpr.mk 3 0 [] [115, 117, 109] []), (TExpr.mk 3 0 [] [105] [])])] [] []), (TStmt.mk 1 [] [105] [(TExpr.mk 10 0 [] [] [(TExpr.mk 3 0 [] [105] []), (TExpr.mk 1 1 [] [] [])])] [] [])] []), (TStmt.mk 6 [] [] [(TExpr.mk 3 0 [] [115, 117, 109] [])] [] [])]⟩ : TProc), (⟨((some ⟨b5, 0, none⟩), 1), ((some ⟨b6, 0, none⟩), 1), ((some ⟨b29, 0, none⟩), 3)⟩ : PAt))] rfl rfl (fun _ hk => by cases hk) PX.cells_len (fun _ _ _ _ h => h) (show 1 ≤ 1 by decide) (by decide) fun H31 fH31 hH31 => ?_
  refine WL.val (.inl rfl) rfl (yl_build zr27 pl27 rfl rfl) ?_
  refine WL.store 0 (.inl rfl) rfl rfl rfl sz27 rfl rfl rfl ?_
  refine WL.nil (WE.then_normal (WC.ret ?_))
  refine WE.retc1 0 rfl rfl rfl ag27 rfl fun w' hw => ?_
  exact ⟨⟨none, 0, (some ⟨b4, 0, none⟩), 3, (some ⟨b31, 0, none⟩), 1, none, 0⟩, rfl, hw.fr, ⟨Sl.nil, (slDecl_mv hH4 (nv_vs hw (by simp) fH4)), (slP8_of hH31 (nv_vs hw (by simp) fH31) (VLe.refl _) ((PXs8.nil _).snoc (VLe.refl _) (VLe.refl _) ⟨(slStr_mv hH5 (nv_vs hw (by simp) fH5)), (slStr_mv hH6 (nv_vs hw (by simp) fH6)), (slS8_of hH29 (nv_vs hw (by simp) fH29) (VLe.refl _) ((((SXs8.nil _ 5).snoc (VLe.refl _) (VLe.refl _) ⟨(slE_of hH8 (nv_vs hw (by simp) fH8) (VLe.refl _) ((XEs.nil _ 7).snoc (VLe.refl _) (VLe.refl _) Sl.nil)), Sl.nil, Sl.nil⟩).snoc (VLe.refl _) (VLe.refl _) ⟨(slE_of hH11 (nv_vs hw (by simp) fH11) (VLe.refl _) ((XEs.nil _ 7).snoc (VLe.refl _) (VLe.refl _) Sl.nil)), (slS8_of hH24 (nv_vs hw (by simp) fH24) (VLe.refl _) (((SXs8.nil _ 4).snoc (VLe.refl _) (VLe.refl _) ⟨(slE_of hH16 (nv_vs hw (by simp) fH16) (VLe.refl _) ((XEs.nil _ 7).snoc (VLe.refl _) (VLe.refl _) (slE_of hH14 (nv_vs hw (by simp) fH14) (VLe.refl _) (((XEs.nil _ 6).snoc (VLe.refl _) (VLe.refl _) Sl.nil).snoc (VLe.refl _) (VLe.refl _) Sl.nil)))), Sl.nil, Sl.nil⟩).snoc (VLe.refl _) (VLe.refl _) ⟨(slE_of hH22 (nv_vs hw (by simp) fH22) (VLe.refl _) ((XEs.nil _ 7).snoc (VLe.refl _) (VLe.refl _) (slE_of hH20 (nv_vs hw (by simp) fH20) (VLe.refl _) (((XEs.nil _ 6).snoc (VLe.refl _) (VLe.refl _) Sl.nil).snoc (VLe.refl _) (VLe.refl _) Sl.nil)))), Sl.nil, Sl.nil⟩)), Sl.nil⟩).snoc (VLe.refl _) (VLe.refl _) ⟨(slE_of hH27 (nv_vs hw (by simp) fH27) (VLe.refl _) ((XEs.nil _ 7).snoc (VLe.refl _) (VLe.refl _) Sl.nil)), Sl.nil, Sl.nil⟩))⟩)), Sl.nil⟩⟩
theorem countText_any (w : World) :
    Calls Tryz.prog 16 #[] w fun e w' => e = .returned (st cntS) ∧ Ext w w' := by
  refine enter Tryz.func16 rfl 1 rfl rfl ?_
  refine WC.world (W' := Ws w [] [] []) (fun _ e => by subst e; exact Ws.init (by simp)) ?_
  refine WC.seq (WC.region ?_)
  refine WL.val (.inl rfl) rfl (yl_assign rfl) ?_
  refine WL.nil (WE.then_normal (WC.seq (WC.region ?_)))
  refine WL.val (.inl rfl) rfl (yl_assign rfl) ?_
  refine WL.nil (WE.then_normal (WC.ret ?_))
  refine WE.ret1 rfl rfl fun w' hw => ?_
  exact ⟨rfl, hw.fr⟩
theorem topText_any (w : World) :
    Calls Tryz.prog 15 #[] w fun e w' => e = .returned (st topS) ∧ Ext w w' := by
  refine enter Tryz.func15 rfl 1 rfl rfl ?_
  refine WC.world (W' := Ws w [] [] []) (fun _ e => by subst e; exact Ws.init (by simp)) ?_
  refine WC.seq (WC.region ?_)
  refine WL.val (.inl rfl) rfl (yl_assign rfl) ?_
  refine WL.nil (WE.then_normal (WC.seq (WC.region ?_)))
  refine WL.val (.inl rfl) rfl (yl_assign rfl) ?_
  refine WL.nil (WE.then_normal (WC.ret ?_))
  refine WE.ret1 rfl rfl fun w' hw => ?_
  exact ⟨rfl, hw.fr⟩
theorem treeBegun_any (G : View) (w : World) (hG : Le G w) (hz : Laid G) :
    Calls Tryz.prog 6 #[] w fun e w' => e = .returned (.bool true) ∧ Ext w w' := by
  refine enter Tryz.func6 rfl 71 rfl rfl ?_
  refine WC.world (W' := Ws w [] [] [G]) (fun _ e => by subst e; exact Ws.init (by simp [hG])) ?_
  refine WC.seq (WC.region ?_)
  refine WL.val (.inl rfl) rfl (yl_assign rfl) ?_
  refine WL.nil (WE.then_normal (WC.seq (WC.region ?_)))
  refine WL.calld (.inl rfl) rfl en14 rfl (fun r : MAt => .agg (modV cntM r).toArray) (fun H r => RdM 8 6 H r cntM) (fun w hw => counter_any w) ?_
  intro F10 r10 hf10 h10
  refine WL.callp (.inl rfl) rfl en9 rfl (fun w hw => by
      have := treeShow_any G F10 8 6 r10 cntM w (hw.vs _ (by simp)) hz (hw.vs _ (by simp)) h10 cnt_w
      rw [cnt_show] at this
      exact this) ?_
  refine WL.val (.inl rfl) rfl (yl_move rfl) ?_
  refine WL.val (.inl rfl) rfl (yl_extract rfl rfl) ?_
  refine WL.val (.inl rfl) rfl (yl_extract rfl rfl) ?_
  refine WL.val (.inl rfl) rfl (yl_assign rfl) ?_
  refine WL.val (.inl rfl) rfl (yl_assign rfl) ?_
  refine WL.nil (WE.then_normal (WC.seq (WC.region ?_)))
  refine WL.val (.inl rfl) rfl (yl_move rfl) ?_
  refine WL.calld (.inl rfl) rfl en11 rfl (fun r : MAt => .tuple #[.agg (modV (cntM) r).toArray, .int .i64 (0)]) (fun H r => RdM 7 6 H r (cntM)) (fun w hw => by
      have := treeParse_any G (cntS) w (hw.vs _ (by simp)) hz
      rw [cnt_parse] at this
      exact this) ?_
  intro F16 r16 hf16 h16
  refine WL.val (.inl rfl) rfl (yl_move rfl) ?_
  refine WL.val (.inl rfl) rfl (yl_extract rfl rfl) ?_
  refine WL.val (.inl rfl) rfl (yl_extract rfl rfl) ?_
  refine WL.alloc (.inl rfl) rfl zr27 fun b3 => ?_
  refine WL.store 0 (.inl rfl) rfl rfl rfl sz27 rfl rfl rfl ?_
  refine WL.val (.inl rfl) rfl (yl_assign rfl) ?_
  refine WL.nil (WE.then_normal (WC.seq (WC.region ?_)))
  refine WL.calld (.inl rfl) rfl en11 rfl (fun r : MAt => .tuple #[.agg (modV ((parseM badS).1) r).toArray, .int .i64 (1)]) (fun H r => RdM 7 6 H r ((parseM badS).1)) (fun w hw => by
      have := treeParse_any G (badS) w (hw.vs _ (by simp)) hz
      rw [bad_parse] at this
      exact this) ?_
  intro F20 r20 hf20 h20
  refine WL.val (.inl rfl) rfl (yl_move rfl) ?_
  refine WL.val (.inl rfl) rfl (yl_extract rfl rfl) ?_
  refine WL.val (.inl rfl) rfl (yl_extract rfl rfl) ?_
  refine WL.alloc (.inl rfl) rfl zr27 fun b5 => ?_
  refine WL.store 0 (.inl rfl) rfl rfl rfl sz27 rfl rfl rfl ?_
  refine WL.val (.inl rfl) rfl (yl_assign rfl) ?_
  refine WL.nil (WE.then_normal (WC.seq (WC.region ?_)))
  refine WL.callp (.inl rfl) rfl en15 rfl (fun w hw => topText_any w) ?_
  refine WL.calld (.inl rfl) rfl en11 rfl (fun r : MAt => .tuple #[.agg (modV ((parseM topS).1) r).toArray, .int .i64 (0)]) (fun H r => RdM 7 6 H r ((parseM topS).1)) (fun w hw => by
      have := treeParse_any G (topS) w (hw.vs _ (by simp)) hz
      rw [top_parse] at this
      exact this) ?_
  intro F25 r25 hf25 h25
  refine WL.val (.inl rfl) rfl (yl_move rfl) ?_
  refine WL.val (.inl rfl) rfl (yl_extract rfl rfl) ?_
  refine WL.val (.inl rfl) rfl (yl_extract rfl rfl) ?_
  refine WL.alloc (.inl rfl) rfl zr27 fun b7 => ?_
  refine WL.store 0 (.inl rfl) rfl rfl rfl sz27 rfl rfl rfl ?_
  refine WL.val (.inl rfl) rfl (yl_assign rfl) ?_
  refine WL.nil (WE.then_normal (WC.seq ?_))
  obtain ⟨tx, htx0, htx⟩ := top_first
  obtain ⟨pb, po, ha, u1, n1, u2, n2, u3, n3, hr, hs1, hs2, hs3⟩ := h25.main.elt 0 tx htx0
  have htl := top_len
  have htc := h25.main.cap
  have htm := h25.main.max
  refine WC.draws0 [(0, false), (1, false), (2, true), (3, true), (4, true), (5, true), (6, true), (7, true), (8, true), (9, true), (10, true), (11, true), (12, true), (13, true), (14, true), (15, true), (16, true), (17, true), (18, true), (19, true), (20, true), (21, false), (22, true), (23, true), (24, true), (25, true), (26, false), (27, false), (28, true), (29, true), (30, true), (31, true), (32, true), (33, true), (34, true), (35, true), (36, true), (37, true), (38, true), (39, true), (40, true), (41, true), (42, true), (43, true)] mixed (by kernel_rfl) (fun _ _ _ d _ h => by cases d <;> exact h) ?_
  refine WD.e rfl (fun _ h => h) ?_
  refine WL.calld (.inl rfl) rfl en14 rfl (fun r : MAt => .agg (modV cntM r).toArray) (fun H r => RdM 8 6 H r cntM) (fun w hw => counter_any w) ?_
  intro F28 r28 hf28 h28
  refine WL.nil (WE.toD ?_)
  refine WD.e rfl (fun _ h => by have h := Ws.drops h (fun _ hm => List.mem_append_right [_] hm); exact h) ?_
  refine WL.callp (.inl rfl) rfl en7 rfl (fun w hw => by
      have := treeCheck_any F28 8 6 r28 cntM w (hw.vs _ (by simp)) h28 (by have := cnt_w; omega)
      rw [cnt_check] at this
      exact this) ?_
  refine WL.nil (WE.toD ?_)
  refine WD.q rfl (.inl rfl) rfl (fun _ h => by have h := Ws.drops h (fun _ hm => List.mem_append_right [_] hm); exact h) (yl_eqiY rfl rfl rfl) ?_
  refine WD.q rfl (.inl rfl) rfl (fun _ h => by have h := Ws.drops h (fun _ hm => List.mem_append_right [_] hm); exact h) (yl_move rfl) ?_
  apply WD.and 2 (x := true) rfl rfl rfl rfl rfl (.inl rfl) rfl (fun _ h => by have h := Ws.drops h (fun _ hm => List.mem_append_right [_] hm); exact h) rfl rfl rfl rfl
  ·
    intro hg0
    refine WD.q rfl (.inr ⟨_, _, _, rfl, rfl, rfl⟩) rfl (fun _ h => by have h := Ws.drops h (fun _ hm => List.mem_append_right [_] hm); exact h) (yl_move rfl) ?_
    refine WD.q rfl (.inr ⟨_, _, _, rfl, rfl, rfl⟩) rfl (fun _ h => by have h := Ws.drops h (fun _ hm => List.mem_append_right [_] hm); exact h) (yl_eqiY rfl rfl rfl) ?_
    exact GotD.intro 2 (fun _ h => by have h := Ws.drops h (fun _ hm => List.mem_append_right [_] hm); exact h) rfl rfl rfl
  refine WD.q rfl (.inl rfl) rfl (fun _ h => by have h := Ws.drops h (fun _ hm => List.mem_append_right [_] hm); exact h) (yl_move rfl) ?_
  apply WD.and 2 (x := true) rfl rfl rfl rfl rfl (.inl rfl) rfl (fun _ h => by have h := Ws.drops h (fun _ hm => List.mem_append_right [_] hm); exact h) rfl rfl rfl rfl
  ·
    intro hg1
    refine WD.q rfl (.inr ⟨_, _, _, rfl, rfl, rfl⟩) rfl (fun _ h => by have h := Ws.drops h (fun _ hm => List.mem_append_right [_] hm); exact h) (yl_move rfl) ?_
    refine WD.q rfl (.inr ⟨_, _, _, rfl, rfl, rfl⟩) rfl (fun _ h => by have h := Ws.drops h (fun _ hm => List.mem_append_right [_] hm); exact h) (yl_eqiY rfl rfl rfl) ?_
    exact GotD.intro 2 (fun _ h => by have h := Ws.drops h (fun _ hm => List.mem_append_right [_] hm); exact h) rfl rfl rfl
  refine WD.q rfl (.inl rfl) rfl (fun _ h => by have h := Ws.drops h (fun _ hm => List.mem_append_right [_] hm); exact h) (yl_move rfl) ?_
  apply WD.and 2 (x := true) rfl rfl rfl rfl rfl (.inl rfl) rfl (fun _ h => by have h := Ws.drops h (fun _ hm => List.mem_append_right [_] hm); exact h) rfl rfl rfl rfl
  ·
    intro hg2
    refine WD.q rfl (.inr ⟨_, _, _, rfl, rfl, rfl⟩) rfl (fun _ h => by have h := Ws.drops h (fun _ hm => List.mem_append_right [_] hm); exact h) (yl_move rfl) ?_
    refine WD.q rfl (.inr ⟨_, _, _, rfl, rfl, rfl⟩) rfl (fun _ h => by have h := Ws.drops h (fun _ hm => List.mem_append_right [_] hm); exact h) (yl_eqiY rfl rfl rfl) ?_
    exact GotD.intro 2 (fun _ h => by have h := Ws.drops h (fun _ hm => List.mem_append_right [_] hm); exact h) rfl rfl rfl
  refine WD.q rfl (.inl rfl) rfl (fun _ h => by have h := Ws.drops h (fun _ hm => List.mem_append_right [_] hm); exact h) (yl_move rfl) ?_
  apply WD.and 2 (x := true) rfl rfl rfl rfl rfl (.inl rfl) rfl (fun _ h => by have h := Ws.drops h (fun _ hm => List.mem_append_right [_] hm); exact h) rfl rfl rfl rfl
  ·
    intro hg3
    refine WD.q rfl (.inr ⟨_, _, _, rfl, rfl, rfl⟩) rfl (fun _ h => by have h := Ws.drops h (fun _ hm => List.mem_append_right [_] hm); exact h) (yl_move rfl) ?_
    refine WD.q rfl (.inr ⟨_, _, _, rfl, rfl, rfl⟩) rfl (fun _ h => by have h := Ws.drops h (fun _ hm => List.mem_append_right [_] hm); exact h) (yl_eqiY rfl rfl rfl) ?_
    exact GotD.intro 2 (fun _ h => by have h := Ws.drops h (fun _ hm => List.mem_append_right [_] hm); exact h) rfl rfl rfl
  refine WD.q rfl (.inl rfl) rfl (fun _ h => by have h := Ws.drops h (fun _ hm => List.mem_append_right [_] hm); exact h) (yl_move rfl) ?_
  apply WD.and 3 (x := true) rfl rfl rfl rfl rfl (.inl rfl) rfl (fun _ h => by have h := Ws.drops h (fun _ hm => List.mem_append_right [_] hm); exact h) rfl rfl rfl rfl
  ·
    intro hg4
    refine WD.q rfl (.inr ⟨_, _, _, rfl, rfl, rfl⟩) rfl (fun _ h => by have h := Ws.drops h (fun _ hm => List.mem_append_right [_] hm); exact h) (yl_move rfl) ?_
    refine WD.e rfl (fun _ h => by have h := Ws.drops h (fun _ hm => List.mem_append_right [_] hm); exact h) ?_
    refine WL.callp (.inr ⟨_, _, _, rfl, rfl, rfl⟩) rfl en16 rfl (fun w hw => countText_any w) ?_
    refine WL.nil (WE.toD ?_)
    refine WD.q rfl (.inr ⟨_, _, _, rfl, rfl, rfl⟩) rfl (fun _ h => by have h := Ws.drops h (fun _ hm => List.mem_append_right [_] hm); exact h) (yl_eqsY rfl rfl rfl) ?_
    exact GotD.intro 3 (fun _ h => by have h := Ws.drops h (fun _ hm => List.mem_append_right [_] hm); exact h) rfl rfl rfl
  refine WD.q rfl (.inl rfl) rfl (fun _ h => by have h := Ws.drops h (fun _ hm => List.mem_append_right [_] hm); exact h) (yl_move rfl) ?_
  apply WD.and 3 (x := true) rfl rfl rfl rfl rfl (.inl rfl) rfl (fun _ h => by have h := Ws.drops h (fun _ hm => List.mem_append_right [_] hm); exact h) rfl rfl rfl rfl
  ·
    intro hg5
    refine WD.q rfl (.inr ⟨_, _, _, rfl, rfl, rfl⟩) rfl (fun _ h => by have h := Ws.drops h (fun _ hm => List.mem_append_right [_] hm); exact h) (yl_ldka 2 rfl rfl ag27 rfl) ?_
    refine WD.e rfl (fun _ h => by have h := Ws.drops h (fun _ hm => List.mem_append_right [_] hm); exact h) ?_
    refine WL.calld (.inr ⟨_, _, _, rfl, rfl, rfl⟩) rfl en14 rfl (fun r : MAt => .agg (modV cntM r).toArray) (fun H r => RdM 8 6 H r cntM) (fun w hw => counter_any w) ?_
    intro F54 r54 hf54 h54
    refine WL.nil (WE.toD ?_)
    refine WD.e rfl (fun _ h => by have h := Ws.drops h (fun _ hm => List.mem_append_right [_, _] hm); exact h) ?_
    refine WL.callp (.inr ⟨_, _, _, rfl, rfl, rfl⟩) rfl en13 rfl (fun w hw => sameModules_eq F16 F54 7 8 6 6 r16 r54 cntM w (hw.vs _ (by simp)) (hw.vs _ (by simp)) h16 h54) ?_
    refine WL.nil (WE.toD ?_)
    refine WD.wk (W' := Ws _ _ [_, _, _] [_, _, _, _, _, _]) (fun _ h => Ws.drops (h) (fun _ hm => List.mem_append_right [_] hm)) ?_
    exact GotD.intro 3 (fun _ h => by have h := Ws.drops h (fun _ hm => List.mem_append_right [_] hm); exact h) rfl rfl rfl
  refine WD.q rfl (.inl rfl) rfl (fun _ h => by have h := Ws.drops h (fun _ hm => List.mem_append_right [_] hm); exact h) (yl_move rfl) ?_
  apply WD.and 4 (x := true) rfl rfl rfl rfl rfl (.inl rfl) rfl (fun _ h => by have h := Ws.drops h (fun _ hm => List.mem_append_right [_] hm); exact h) rfl rfl rfl rfl
  ·
    intro hg6
    refine WD.q rfl (.inr ⟨_, _, _, rfl, rfl, rfl⟩) rfl (fun _ h => by have h := Ws.drops h (fun _ hm => List.mem_append_right [_] hm); exact h) (yl_fa fo27_4 rfl) ?_
    refine WD.q rfl (.inr ⟨_, _, _, rfl, rfl, rfl⟩) rfl (fun _ h => by have h := Ws.drops h (fun _ hm => List.mem_append_right [_] hm); exact h) (yl_ldk 0 rfl rfl rfl na25) ?_
    refine WD.q rfl (.inr ⟨_, _, _, rfl, rfl, rfl⟩) rfl (fun _ h => by have h := Ws.drops h (fun _ hm => List.mem_append_right [_] hm); exact h) (yl_len es25 rfl) ?_
    refine WD.q rfl (.inr ⟨_, _, _, rfl, rfl, rfl⟩) rfl (fun _ h => by have h := Ws.drops h (fun _ hm => List.mem_append_right [_] hm); exact h) (yl_eqiY rfl rfl (by rw [top_len]; rfl)) ?_
    exact GotD.intro 4 (fun _ h => by have h := Ws.drops h (fun _ hm => List.mem_append_right [_] hm); exact h) rfl rfl rfl
  refine WD.q rfl (.inl rfl) rfl (fun _ h => by have h := Ws.drops h (fun _ hm => List.mem_append_right [_] hm); exact h) (yl_move rfl) ?_
  apply WD.and 6 (x := true) rfl rfl rfl rfl rfl (.inl rfl) rfl (fun _ h => by have h := Ws.drops h (fun _ hm => List.mem_append_right [_] hm); exact h) rfl rfl rfl rfl
  ·
    intro hg7
    refine WD.q rfl (.inr ⟨_, _, _, rfl, rfl, rfl⟩) rfl (fun _ h => by have h := Ws.drops h (fun _ hm => List.mem_append_right [_] hm); exact h) (yl_fa fo27_4 rfl) ?_
    refine WD.q rfl (.inr ⟨_, _, _, rfl, rfl, rfl⟩) rfl (fun _ h => by have h := Ws.drops h (fun _ hm => List.mem_append_right [_] hm); exact h) (yl_ldk 0 rfl rfl rfl na25) ?_
    refine WD.q rfl (.inr ⟨_, _, _, rfl, rfl, rfl⟩) rfl (fun _ h => by have h := Ws.drops h (fun _ hm => List.mem_append_right [_] hm); exact h) (yl_iao (i := 0) es25 rfl rfl ha (by rw [htl]; decide)) ?_
    refine WD.q rfl (.inr ⟨_, _, _, rfl, rfl, rfl⟩) rfl (fun _ h => by have h := Ws.drops h (fun _ hm => List.mem_append_right [_] hm); exact h) (yl_fa fo43_1 rfl) ?_
    refine WD.q rfl (.inr ⟨_, _, _, rfl, rfl, rfl⟩) rfl (fun _ h => by have h := Ws.drops h (fun _ hm => List.mem_append_right [_] hm); exact h) (yl_ld 0 na9 rfl rfl (hr 1 _ rfl)) ?_
    refine WD.q rfl (.inr ⟨_, _, _, rfl, rfl, rfl⟩) rfl (fun _ h => by have h := Ws.drops h (fun _ hm => List.mem_append_right [_] hm); exact h) (yl_eqsY rfl rfl htx) ?_
    exact GotD.intro 6 (fun _ h => by have h := Ws.drops h (fun _ hm => List.mem_append_right [_] hm); exact h) rfl rfl rfl
  refine WD.q rfl (.inl rfl) rfl (fun _ h => by have h := Ws.drops h (fun _ hm => List.mem_append_right [_] hm); exact h) (yl_assign rfl) ?_
  refine WD.nil (fun _ h => by have h := Ws.drops h (fun _ hm => List.mem_append_right [_] hm); exact h) ?_
  refine WE.then_normal (WC.ret ?_)
  refine WE.ret1 rfl rfl fun w' hw => ?_
  exact ⟨rfl, hw.fr⟩
end Go.Proofs.YtjfldjidhkfnbaaGreatDoor
end
section
namespace Go.Proofs.YtjfldjidhkfnbaaGreatDoor
open Go.Bw
set_option linter.unusedVariables false
set_option linter.unusedSimpArgs false
theorem en6 : Enters Tryz.prog 6 := enters_of Tryz.func6 (by kernel_rfl) rfl
theorem treeChecks_any (G H : View) (ke ks : Nat) (q : MAt) (m : TMod) (w : World) (hG : Le G w) (hz : Laid G) (hH : Le H w) (hm : RdM ke ks H q m) (hb : wM m ≤ 109951162777) :
    Calls Tryz.prog 3 #[.agg (modV m q).toArray] w fun e w' => e = .returned (.bool true) ∧ Ext w w' := by
  refine enter Tryz.func3 rfl 11 rfl rfl ?_
  refine WC.world (W' := Ws w [] [] [G, H]) (fun _ e => by subst e; exact Ws.init (by simp [hG, hH])) ?_
  refine WC.seq (WC.region ?_)
  refine WL.box (.inl rfl) rfl rfl fun b1 => ?_
  refine WL.val (.inl rfl) rfl (yl_assign rfl) ?_
  refine WL.nil (WE.then_normal (WC.seq ?_))
  refine WC.draws0 [(0, false), (1, true), (2, true), (4, true), (3, false), (5, false), (6, true), (7, true), (8, true)] mixed (by kernel_rfl) (fun _ _ _ d _ h => by cases d <;> exact h) ?_
  refine WD.e rfl (fun _ h => h) ?_
  refine WL.callp (.inl rfl) rfl en6 rfl (fun w hw => treeBegun_any G w (hw.vs _ (by simp)) hz) ?_
  refine WL.nil (WE.toD ?_)
  refine WD.q rfl (.inl rfl) rfl (fun _ h => h) (yl_move rfl) ?_
  apply WD.and 5 (x := true) rfl rfl rfl rfl rfl (.inl rfl) rfl (fun _ h => h) rfl rfl rfl rfl
  ·
    intro hg0
    refine WD.q rfl (.inr ⟨_, _, _, rfl, rfl, rfl⟩) rfl (fun _ h => h) (yl_ldka 0 rfl rfl ag27 rfl) ?_
    refine WD.q rfl (.inr ⟨_, _, _, rfl, rfl, rfl⟩) rfl (fun _ h => h) (yl_ldka 0 rfl rfl ag27 rfl) ?_
    refine WD.e rfl (fun _ h => h) ?_
    refine WL.callp (.inr ⟨_, _, _, rfl, rfl, rfl⟩) rfl en7 rfl (fun w hw => treeCheck_any H ke ks q m w (hw.vs _ (by simp)) hm (by omega)) ?_
    refine WL.nil (WE.toD ?_)
    refine WD.e rfl (fun _ h => h) ?_
    refine WL.callp (.inr ⟨_, _, _, rfl, rfl, rfl⟩) rfl en8 rfl (fun w hw => checkModule_any H ke ks q m w (hw.vs _ (by simp)) hm hb) ?_
    refine WL.nil (WE.toD ?_)
    refine WD.q rfl (.inr ⟨_, _, _, rfl, rfl, rfl⟩) rfl (fun _ h => h) (yl_eqiY rfl rfl (check_same m)) ?_
    exact GotD.intro 5 (fun _ h => h) rfl rfl rfl
  refine WD.q rfl (.inl rfl) rfl (fun _ h => h) (yl_assign rfl) ?_
  refine WD.nil (fun _ h => h) ?_
  refine WE.then_normal (WC.ret ?_)
  refine WE.ret1 rfl rfl fun w' hw => ?_
  exact ⟨rfl, hw.fr⟩
end Go.Proofs.YtjfldjidhkfnbaaGreatDoor
end
section
namespace Go.Proofs.YtjfldjidhkfnbaaGreatDoor
open Go.Bw
set_option linter.unusedVariables false
set_option linter.unusedSimpArgs false
open Go.ChangeShapes Go.WideShapes Go.ChangeAt Go.RowKit Go.Joins Go.Deep
theorem modTy : ∃ e s d p m, ModTy Tryz.prog 81 43 53 56 27 41 25 23 24 22 e s d p m 3 4 9 := ⟨_, _, _, _, _, ⟨Tryz.underlying3, Tryz.underlying4, Tryz.underlying9, (by kernel_rfl), Tryz.underlying81, (by kernel_rfl), (by simp), Tryz.underlying41, Tryz.underlying43, (by kernel_rfl), (by simp), Tryz.underlying25, Tryz.underlying53, (by kernel_rfl), (by simp), Tryz.underlying23, Tryz.underlying56, (by kernel_rfl), (by simp), Tryz.underlying24, Tryz.underlying22, Tryz.underlying27, (by kernel_rfl), (by simp)⟩⟩
def bulkOf (H : Type) : Bulk H := ⟨Rows.uptoBulk, Rows.uptoBulkAll, fun l => by simp [Rows.uptoBulk], fun l => by simp [Rows.uptoBulk], fun l r => by simp only [Rows.uptoBulk]; omega, by simp [Rows.uptoBulkAll], fun d r => by simp [Rows.uptoBulkAll]⟩
theorem own : ownKnob Tryz.prog.godebug = none := by kernel_rfl
theorem laidOut : laidOutB Tryz.prog = true := by kernel_rfl
theorem tPow : (Tryz.prog.globals[0]?).map (·.type) = some 153 := by kernel_rfl
theorem tRng : (Tryz.prog.globals[2]?).map (·.type) = some 113 := by kernel_rfl
theorem tSyn : (Tryz.prog.globals[1]?).map (·.type) = some 113 := by kernel_rfl
theorem nRng : Tryz.prog.globalNamed "strconv.ErrRange" = some 2 := by kernel_rfl
theorem nSyn : Tryz.prog.globalNamed "strconv.ErrSyntax" = some 1 := by kernel_rfl
theorem cPow : Tryz.prog.cellsOf 153 = 20 := by kernel_rfl
theorem cU64 : Tryz.prog.cellsOf 135 = 1 := by kernel_rfl
theorem cErr : Tryz.prog.cellsOf 169 = 1 := by kernel_rfl
theorem cStr : Tryz.prog.cellsOf 9 = 1 := by kernel_rfl
theorem rowErr (u : TypeId) (h : Tryz.prog.typeName? 3 u = Tryz.prog.typeName? 3 167) : u = 167 :=
  typeName_ptr_named (P := Tryz.prog) (nm := "errors.errorString") (by kernel_rfl) (by kernel_rfl) (by decide) u (h.trans (by kernel_rfl))
theorem laidv_of {W : World} (h : laidMetH Tryz.prog Rows.treeChecksRow.laid W) : Laid (hv W) := by
  rw [MakeChecks.laidMetH_plain _ _ _ (by kernel_rfl)] at h
  have h3 := h.tail.tail
  have ht : Lib.TabIs Tryz.prog W powNm .u64 Lib.pow10Tab := Lib.tabIs_of_head (k := .u64) (zs := Lib.pow10Tab) powName tPow Tryz.underlying153 Tryz.underlying135 cU64 cPow h3
  obtain ⟨a1, s1, hv1, _⟩ := laid_sentinel h3.tail nRng tRng Tryz.underlying113 (fun u hu => rowErr u (hu.trans (by kernel_rfl))) Tryz.underlying167 Tryz.underlying169 rfl rfl Tryz.underlying9 cErr cStr
  obtain ⟨a2, s2, hv2, _⟩ := laid_sentinel h3.tail.tail nSyn tSyn Tryz.underlying113 (fun u hu => rowErr u (hu.trans (by kernel_rfl))) Tryz.underlying167 Tryz.underlying169 rfl rfl Tryz.underlying9 cErr cStr
  exact ⟨pow_of ht powName, ⟨_, vc_of_cell' (by simpa using World.var?_cell nSyn hv2 0), .inr ⟨_, _, rfl⟩⟩, ⟨_, vc_of_cell' (by simpa using World.var?_cell nRng hv1 0), .inr ⟨_, _, rfl⟩⟩⟩
theorem door_met (os : Os) (args : Array Value) : laidMetH Tryz.prog Rows.treeChecksRow.laid ((World.doorLaid Tryz.prog 62 os).forCall (fun _ _ => 0) ⟨#[], args, []⟩).memory :=
  laidMetH_of_parts3 (fuel := 8) (laidMet_of_run' 8 (by kernel_rfl) (by kernel_rfl)) (by kernel_rfl) (by kernel_rfl)
end Go.Proofs.YtjfldjidhkfnbaaGreatDoor
end
section
namespace Go.Proofs.YtjfldjidhkfnbaaGreatDoor
open Go.Bw
set_option linter.unusedVariables false
set_option linter.unusedSimpArgs false
open Go.ChangeShapes Go.WideShapes Go.ChangeAt Go.RowKit Go.Joins Go.Deep
theorem treeChecks_reads (os : Os) {H : Type} (enc : TypeId × Value → H) : ∃ places, DataW.whole enc Tryz.prog ((World.doorLaid Tryz.prog 62 os).forCall (fun _ _ => 0) ⟨#[], #[.agg #[.string ⟨#[]⟩, .slice none 0 0, .slice none 0 0, .slice none 0 0, .slice none 0 0]], []⟩).memory Tryz.f3.params.toList Rows.treeChecksSpec.vars false #[.agg #[.string ⟨#[]⟩, .slice none 0 0, .slice none 0 0, .slice none 0 0, .slice none 0 0]].toList 8 = some ([.agg [.lit (.string []), .nil, .nil, .nil, .nil]], [], places) :=
  ⟨[], by kernel_rfl⟩
set_option maxRecDepth 100000 in
theorem treeChecks_lifted (os : Os) (started : os.Started) (H : Type) (enc : TypeId × Value → H) (F : Stop.Interp) :
    ReturnsInHanded {} Tryz.checked os 3 .any ((Rows.OpenSpec.upto Rows.treeChecksSpec).preRow enc Tryz.prog Tryz.f3 Rows.treeChecksUptoRow.domain false Rows.treeChecksUptoRow.laid) (((Rows.OpenSpec.upto Rows.treeChecksSpec).at F).post enc Tryz.prog Tryz.f3 false true false false) := by
  obtain ⟨places, hx⟩ := treeChecks_reads os enc
  refine returnsInHanded_of_row (C := Tryz.checked) (s := Rows.OpenSpec.upto Rows.treeChecksSpec) own started (by kernel_rfl) Tryz.func3
    (witness_row_atRef (enc := enc) (C := Tryz.checked) false (World.doorLaid Tryz.prog 62 os) #[.agg #[.string ⟨#[]⟩, .slice none 0 0, .slice none 0 0, .slice none 0 0, .slice none 0 0]] rfl (by kernel_rfl) (by kernel_rfl) (by kernel_rfl)
      (OpenSpec.preRow_of_cond 8 hx (by kernel_rfl) (fun k hk => by cases hk; kernel_rfl) (by kernel_rfl) (door_met os _))) ?_
  intro W base args ds gs before hval0 hW _ hcond _ hLd _ _
  have hLz : Laid (hv W) := laidv_of hLd
  have hval : ∀ (j : Nat) t v, Tryz.f3.params[j]? = some t → args[j]? = some v → Value.okWide Tryz.prog W .any base t v := hval0
  have hW' := hW
  obtain ⟨p, q, hA0, hV, rfl, hfz, hnd⟩ := hW
  have hA : DataW.TrodAll enc Tryz.prog W 0 (fun _ => true) true Tryz.f3.params.toList args.toList ds p := hA0
  rw [Tryz.params3] at hA hval
  obtain ⟨v0, vs0, d0, ds0, p0, q0, hargs, rfl, rfl, h0, r0⟩ := trodAll_cons hA
  obtain ⟨rfl, rfl, rfl⟩ := trodAll_nil r0
  obtain rfl : args = #[v0] := by cases args; simp_all
  obtain ⟨rfl, rfl⟩ := trodVars_none hV
  have k0 := h0
  have lt0 : ∀ x ∈ p0, x.block < W.heap.size := by obtain ⟨m, hm⟩ := k0; exact DataW.trod_lt m _ _ _ hm
  obtain ⟨_, _, _, _, _, hT0⟩ := modTy
  obtain ⟨m0, q0_, n0, rfl, hm0, hb0⟩ := open_mod (bulkOf H) hT0 (fun _ => rfl) (hval 0 27 v0 rfl rfl) h0
  have hb0 : wM m0 ≤ Rows.uptoBulk d0 := hb0
  clear hA0 hval0
  have hbulk : Rows.uptoBulkAll [d0] ≤ 1048576 := of_decide_eq_true (hcond _ rfl)
  simp only [Rows.uptoBulkAll] at hbulk
  have hb0 : wM m0 ≤ 109951162777 := by omega
  refine (treeChecks_any (hv W) (hv W) n0 n0 q0_ m0 W (hv_le W) hLz (hv_le W) hm0 hb0).mono fun e W' ⟨he, hx⟩ => ?_
  subst he
  have bel := hx.below
  exact ⟨_, rfl, _, _, _, [], _, [], hW', trodAll_mk1 (shut_bool Tryz.underlying4 _), (trodAll_cons_mk (Below.trod laidOut (by kernel_rfl) (of_decide_eq_true (by kernel_rfl)) k0 bel lt0) trodAll_mk0), rfl, bel.frame _, fun h => by cases h⟩
theorem treeChecks_said : Rows.TreeChecksUptoSaid :=
  OpenClaim.holds_of_cond 3 Tryz.f3 rfl rfl rfl rfl rfl rfl rfl ⟨rfl, rfl, rfl, rfl, rfl⟩ rfl rfl rfl rfl rfl (by kernel_rfl) Tryz.func3 (by kernel_rfl)
    (of_decide_eq_true (by kernel_rfl)) (by unfold Func.isWrapper; first | (rw [if_pos (by decide +kernel)]; kernel_rfl) | (rw [if_neg (by decide +kernel)]; exact ⟨rfl, rfl⟩))
    (fun os started H enc _ F => by rw [OpenClaim.pre_eq_preRow]; exact treeChecks_lifted os started H enc F)
theorem treeChecks_plain (f : FuncId) (fn : Func) (hf : Tryz.pinned.checked.prog.funcNamed Rows.treeChecksUptoRow.func = some f) (hfn : Tryz.pinned.checked.prog.funcs[f]? = some fn) :
    true = Tryz.pinned.checked.prog.looks [] ∧ ∀ (j : Nat) t, fn.params[j]? = some t → Tryz.pinned.checked.prog.wantsStandIn t = false := by
  obtain rfl : f = 3 := Option.some.inj ((show Tryz.prog.funcNamed Rows.treeChecksUptoRow.func = some 3 by kernel_rfl).symm.trans hf) |>.symm
  obtain rfl : fn = Tryz.f3 := (Option.some.inj (Tryz.func3.symm.trans hfn)).symm
  refine ⟨by kernel_rfl, fun j t ht => ?_⟩
  rw [Tryz.params3] at ht
  have hm : t ∈ [27] := by simpa using Array.mem_of_getElem? ht
  have hall : ([27].all fun u => !Tryz.prog.wantsStandIn u) = true := by kernel_rfl
  exact (show Tryz.prog.wantsStandIn t = false by simpa using List.all_eq_true.1 hall t hm)
theorem treeChecks_proved : Rows.TreeChecksUptoCardSaid :=
  Claim7.holds_tied_plain_at .later [] _ _ _ _ treeChecks_said (fun _ h => by cases h) (by kernel_rfl) (fun _ h => by cases h) treeChecksUpto_row_tie rfl ⟨rfl, rfl⟩ (by kernel_rfl) rfl treeChecks_plain (by kernel_rfl)
end Go.Proofs.YtjfldjidhkfnbaaGreatDoor
end
