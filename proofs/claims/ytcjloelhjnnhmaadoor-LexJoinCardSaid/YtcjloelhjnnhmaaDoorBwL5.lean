/- Walks of the lexer, of the document's answer and of the laws, and plain laws on what they compute; each theorem tells its own conditions. -/
import Derived.Test.YtcjloelhjnnhmaaDoorBwL4
namespace Go.Proofs.YtcjloelhjnnhmaaDoor
open Go.Bw
set_option linter.unusedVariables false
set_option linter.unusedSimpArgs false

def begS : List UInt8 := [105, 102, 40, 97, 49, 60, 50, 48, 41, 10, 32, 120]
def begT : List Tok := [⟨1, 0, [105, 102]⟩, ⟨3, 0, [40]⟩, ⟨1, 0, [97, 49]⟩, ⟨3, 0, [60]⟩, ⟨2, 20, []⟩, ⟨3, 0, [41]⟩, ⟨1, 0, [120]⟩]
def begJ : List UInt8 := [105, 102, 32, 40, 32, 97, 49, 32, 60, 32, 50, 48, 32, 41, 32, 120]
theorem beg_lex : lexR begS = (begT, 0) := by decide +kernel
theorem beg_show : showT begT = (begJ, 0) := by decide +kernel
theorem beg_01 : lexR [48, 49] = ([], 1) := by decide +kernel
theorem beg_1a : lexR [49, 97] = ([], 1) := by decide +kernel
theorem lexR_num (s : List UInt8) : (lexR s).2 = 0 ∨ (lexR s).2 ≠ 0 ∧ (lexR s).1 = [] := by
  unfold lexR
  split
  · right; simp
  · cases lexO s
    · right; simp
    · left; rfl
theorem lex_join2 {a b : List UInt8} (h : a.length + 1 + b.length ≤ 4096) : lexR (a ++ [32] ++ b) = if (lexR a).2 = 0 ∧ (lexR b).2 = 0 then ((lexR a).1 ++ (lexR b).1, 0) else ([], 1) := by
  rw [List.append_assoc]; exact lex_join h
theorem tok_one (x : Tok) : x.cells.all (·.oneCell') = true := rfl
theorem en12 : Enters Tryd.prog 12 := enters_of Tryd.func12 (by kernel_rfl) rfl
theorem en7 : Enters Tryd.prog 7 := enters_of Tryd.func7 (by kernel_rfl) rfl
theorem en8 : Enters Tryd.prog 8 := enters_of Tryd.func8 (by kernel_rfl) rfl
theorem en9 : Enters Tryd.prog 9 := enters_of Tryd.func9 (by kernel_rfl) rfl
theorem en10 : Enters Tryd.prog 10 := enters_of Tryd.func10 (by kernel_rfl) rfl
theorem en13 : Enters Tryd.prog 13 := enters_of Tryd.func13 (by kernel_rfl) rfl
theorem en14 : Enters Tryd.prog 14 := enters_of Tryd.func14 (by kernel_rfl) rfl

theorem lexBegun_any (G : View) (w : World) (hG : Le G w) (hz : Laid G) :
    Calls Tryd.prog 10 #[] w fun e w' => e = .returned (.bool true) ∧ Ext w w' := by
  refine enter Tryd.func10 rfl 63 rfl rfl ?_
  refine WC.world (W' := Ws w [] [] [G]) (fun _ e => by subst e; exact Ws.init (by simp [hG])) ?_
  refine WC.seq ?_
  refine WC.region ?_
  refine WL.val (.inl rfl) rfl (yl_assign rfl) ?_
  refine WL.nil ?_
  refine WE.then_normal ?_
  refine WC.seq ?_
  refine WC.region ?_
  refine WL.calld (.inl rfl) rfl en12 rfl (fun r : Option Addr × Nat => .tuple #[.slice r.1 (begT).length r.2, .int .i64 (0)]) (fun H r => Sl rdTok 3 H r.1 r.2 (begT)) (fun w hw => by
      have := lex_any G (begS) w (hw.vs _ (by simp)) hz
      rw [beg_lex] at this
      exact this) ?_
  intro F10 r10 hf10 h10
  refine WL.val (.inl rfl) rfl (yl_move rfl) ?_
  refine WL.val (.inl rfl) rfl (yl_extract rfl rfl) ?_
  refine WL.val (.inl rfl) rfl (yl_extract rfl rfl) ?_
  refine WL.val (.inl rfl) rfl (yl_assign rfl) ?_
  refine WL.val (.inl rfl) rfl (yl_assign rfl) ?_
  refine WL.nil ?_
  refine WE.then_normal ?_
  refine WC.seq ?_
  refine WC.region ?_
  refine WL.val (.inl rfl) rfl (yl_move rfl) ?_
  refine WL.callp (.inl rfl) rfl en7 rfl (fun w hw => by
      have := lexShow_any G F10 r10.1 r10.2 begT w (hw.vs _ (by simp)) hz (hw.vs _ (by simp)) h10
      rw [beg_show] at this
      exact this) ?_
  refine WL.val (.inl rfl) rfl (yl_move rfl) ?_
  refine WL.val (.inl rfl) rfl (yl_extract rfl rfl) ?_
  refine WL.val (.inl rfl) rfl (yl_extract rfl rfl) ?_
  refine WL.val (.inl rfl) rfl (yl_assign rfl) ?_
  refine WL.val (.inl rfl) rfl (yl_assign rfl) ?_
  refine WL.nil ?_
  refine WE.then_normal ?_
  refine WC.seq ?_
  refine WC.region ?_
  refine WL.calld (.inl rfl) rfl en12 rfl (fun r : Option Addr × Nat => .tuple #[.slice r.1 (([] : List Tok)).length r.2, .int .i64 (1)]) (fun H r => Sl rdTok 3 H r.1 r.2 (([] : List Tok))) (fun w hw => by
      have := lex_any G ([48, 49]) w (hw.vs _ (by simp)) hz
      rw [beg_01] at this
      exact this) ?_
  intro F19 r19 hf19 h19
  refine WL.val (.inl rfl) rfl (yl_move rfl) ?_
  refine WL.val (.inl rfl) rfl (yl_extract rfl rfl) ?_
  refine WL.val (.inl rfl) rfl (yl_extract rfl rfl) ?_
  refine WL.val (.inl rfl) rfl (yl_assign rfl) ?_
  refine WL.val (.inl rfl) rfl (yl_assign rfl) ?_
  refine WL.nil ?_
  refine WE.then_normal ?_
  refine WC.seq ?_
  refine WC.region ?_
  refine WL.calld (.inl rfl) rfl en12 rfl (fun r : Option Addr × Nat => .tuple #[.slice r.1 (([] : List Tok)).length r.2, .int .i64 (1)]) (fun H r => Sl rdTok 3 H r.1 r.2 (([] : List Tok))) (fun w hw => by
      have := lex_any G ([49, 97]) w (hw.vs _ (by simp)) hz
      rw [beg_1a] at this
      exact this) ?_
  intro F23 r23 hf23 h23
  refine WL.val (.inl rfl) rfl (yl_move rfl) ?_
  refine WL.val (.inl rfl) rfl (yl_extract rfl rfl) ?_
  refine WL.val (.inl rfl) rfl (yl_extract rfl rfl) ?_
  refine WL.val (.inl rfl) rfl (yl_assign rfl) ?_
  refine WL.val (.inl rfl) rfl (yl_assign rfl) ?_
  refine WL.nil ?_
  refine WE.then_normal ?_
  refine WC.seq ?_
  obtain ⟨b0, o0, ha0, hr0⟩ := h10.elt 0 _ rfl
  obtain ⟨b4, o4, ha4, hr4⟩ := h10.elt 4 _ rfl
  have hcap := h10.cap
  have hmax := h10.max
  have hbl : begT.length = 7 := rfl
  refine WC.region ?_
  refine WL.val (.inl rfl) rfl (yl_move rfl) ?_
  refine WL.val (.inl rfl) rfl (yl_eq rfl rfl) ?_
  refine WL.val (.inl rfl) rfl (yl_move rfl) ?_
  apply WL.and 2 rfl rfl rfl rfl (.inl rfl) rfl rfl rfl rfl rfl
  ·
    intro hg0
    refine WL.val (.inr ⟨_, _, _, rfl, rfl, rfl⟩) rfl (yl_move rfl) ?_
    refine WL.val (.inr ⟨_, _, _, rfl, rfl, rfl⟩) rfl (yl_eq rfl rfl) ?_
    exact Got.intro 2 rfl rfl rfl
  refine WL.val (.inl rfl) rfl (yl_move rfl) ?_
  apply WL.and 2 rfl rfl rfl rfl (.inl rfl) rfl rfl rfl rfl rfl
  ·
    intro hg1
    refine WL.val (.inr ⟨_, _, _, rfl, rfl, rfl⟩) rfl (yl_move rfl) ?_
    refine WL.val (.inr ⟨_, _, _, rfl, rfl, rfl⟩) rfl (yl_eq rfl rfl) ?_
    exact Got.intro 2 rfl rfl rfl
  refine WL.val (.inl rfl) rfl (yl_move rfl) ?_
  apply WL.and 2 rfl rfl rfl rfl (.inl rfl) rfl rfl rfl rfl rfl
  ·
    intro hg2
    refine WL.val (.inr ⟨_, _, _, rfl, rfl, rfl⟩) rfl (yl_move rfl) ?_
    refine WL.val (.inr ⟨_, _, _, rfl, rfl, rfl⟩) rfl (yl_eq rfl rfl) ?_
    exact Got.intro 2 rfl rfl rfl
  refine WL.val (.inl rfl) rfl (yl_move rfl) ?_
  apply WL.and 3 rfl rfl rfl rfl (.inl rfl) rfl rfl rfl rfl rfl
  ·
    intro hg3
    refine WL.val (.inr ⟨_, _, _, rfl, rfl, rfl⟩) rfl (yl_move rfl) ?_
    refine WL.val (.inr ⟨_, _, _, rfl, rfl, rfl⟩) rfl (yl_len es22 rfl) ?_
    refine WL.val (.inr ⟨_, _, _, rfl, rfl, rfl⟩) rfl (yl_eq rfl rfl) ?_
    exact Got.intro 3 rfl rfl rfl
  refine WL.val (.inl rfl) rfl (yl_move rfl) ?_
  apply WL.and 5 rfl rfl rfl rfl (.inl rfl) rfl rfl rfl rfl rfl
  ·
    intro hg4
    refine WL.val (.inr ⟨_, _, _, rfl, rfl, rfl⟩) rfl (yl_move rfl) ?_
    refine WL.val (.inr ⟨_, _, _, rfl, rfl, rfl⟩) rfl (yl_iao (i := 0) es22 rfl rfl ha0 (by decide)) ?_
    refine WL.val (.inr ⟨_, _, _, rfl, rfl, rfl⟩) rfl (yl_lda 2 ag38 rfl rfl rfl (hr0)) ?_
    refine WL.val (.inr ⟨_, _, _, rfl, rfl, rfl⟩) rfl (yl_build zr38 pl38 rfl rfl) ?_
    refine WL.val (.inr ⟨_, _, _, rfl, rfl, rfl⟩) rfl (yl_eqst fl38 rfl rfl rfl) ?_
    exact Got.intro 5 rfl rfl rfl
  refine WL.val (.inl rfl) rfl (yl_move rfl) ?_
  apply WL.and 5 rfl rfl rfl rfl (.inl rfl) rfl rfl rfl rfl rfl
  ·
    intro hg5
    refine WL.val (.inr ⟨_, _, _, rfl, rfl, rfl⟩) rfl (yl_move rfl) ?_
    refine WL.val (.inr ⟨_, _, _, rfl, rfl, rfl⟩) rfl (yl_iao (i := 4) es22 rfl rfl ha4 (by decide)) ?_
    refine WL.val (.inr ⟨_, _, _, rfl, rfl, rfl⟩) rfl (yl_lda 2 ag38 rfl rfl rfl (hr4)) ?_
    refine WL.val (.inr ⟨_, _, _, rfl, rfl, rfl⟩) rfl (yl_build zr38 pl38 rfl rfl) ?_
    refine WL.val (.inr ⟨_, _, _, rfl, rfl, rfl⟩) rfl (yl_eqst fl38 rfl rfl rfl) ?_
    exact Got.intro 5 rfl rfl rfl
  refine WL.val (.inl rfl) rfl (yl_move rfl) ?_
  apply WL.and 2 rfl rfl rfl rfl (.inl rfl) rfl rfl rfl rfl rfl
  ·
    intro hg6
    refine WL.val (.inr ⟨_, _, _, rfl, rfl, rfl⟩) rfl (yl_move rfl) ?_
    refine WL.val (.inr ⟨_, _, _, rfl, rfl, rfl⟩) rfl (yl_eqs rfl rfl) ?_
    exact Got.intro 2 rfl rfl rfl
  refine WL.val (.inl rfl) rfl (yl_assign rfl) ?_
  refine WL.nil ?_
  refine WE.then_normal ?_
  refine WC.ret ?_
  refine WE.ret1 rfl rfl fun w' hw => ?_
  exact ⟨rfl, hw.fr⟩

theorem lexChecks_any (G : View) (H : View) (a : Option Addr) (c : Nat) (l : List Tok) (w : World) (hG : Le G w) (hz : Laid G) (hH : Le H w) (hm : Sl rdTok 3 H a c l) :
    Calls Tryd.prog 3 #[.slice a l.length c] w fun e w' => e = .returned (.bool true) ∧ Ext w w' := by
  have hcap := hm.cap
  have hmax := hm.max
  refine enter Tryd.func3 rfl 35 rfl rfl ?_
  refine WC.world (W' := Ws w [] [] [G, H]) (fun _ e => by subst e; exact Ws.init (by simp [hG, hH])) ?_
  refine WC.seq ?_
  refine WC.region ?_
  refine WL.val (.inl rfl) rfl (yl_assign rfl) ?_
  refine WL.nil ?_
  refine WE.then_normal ?_
  refine WC.seq ?_
  refine WC.region ?_
  refine WL.val (.inl rfl) rfl (yl_move rfl) ?_
  refine WL.callp (.inl rfl) rfl en7 rfl (fun w hw => lexShow_any G H a c l w (hw.vs _ (by simp)) hz (hw.vs _ (by simp)) hm) ?_
  refine WL.val (.inl rfl) rfl (yl_move rfl) ?_
  refine WL.val (.inl rfl) rfl (yl_extract rfl rfl) ?_
  refine WL.val (.inl rfl) rfl (yl_extract rfl rfl) ?_
  refine WL.val (.inl rfl) rfl (yl_assign rfl) ?_
  refine WL.val (.inl rfl) rfl (yl_assign rfl) ?_
  refine WL.nil ?_
  refine WE.then_normal ?_
  refine WC.seq ?_
  refine WC.region ?_
  refine WL.val (.inl rfl) rfl (yl_move rfl) ?_
  refine WL.callp (.inl rfl) rfl en8 rfl (fun w hw => checkToks_any H a c l w (hw.vs _ (by simp)) hm) ?_
  refine WL.val (.inl rfl) rfl (yl_assign rfl) ?_
  refine WL.nil ?_
  refine WE.then_normal ?_
  refine WC.seq ?_
  refine WC.region ?_
  refine WL.val (.inl rfl) rfl (yl_assign rfl) ?_
  refine WL.nil ?_
  refine WE.then_normal ?_
  refine WC.seq ?_
  refine WC.seq ?_
  refine WC.region ?_
  refine WL.val (.inl rfl) rfl (yl_move rfl) ?_
  refine WL.val (.inl rfl) rfl (yl_eq rfl rfl) ?_
  refine WL.nil ?_
  refine WE.then_normal ?_
  refine WC.cond rfl (fun hc0 => ?_) (fun hc0 => ?_)
  ·
    have hc : checkT l = 0 := by simpa using hc0
    obtain ⟨hok, hl⟩ := checkT_zero hc
    have hS : showT l = (joinT l, 0) := by rw [showT, if_pos hc]
    refine WC.region ?_
    refine WL.val (.inl rfl) rfl (yl_move rfl) ?_
    refine WL.callp (.inl rfl) rfl en9 rfl (fun w hw => toksText_any H a c l w (hw.vs _ (by simp)) hm hok hl) ?_
    refine WL.val (.inl rfl) rfl (yl_assign rfl) ?_
    refine WL.nil ?_
    refine WE.then_normal ?_
    refine WC.seq ?_
    refine WC.region ?_
    refine WL.callp (.inl rfl) rfl en10 rfl (fun w hw => lexBegun_any G w (hw.vs _ (by simp)) hz) ?_
    refine WL.val (.inl rfl) rfl (yl_move rfl) ?_
    apply WL.and 4 rfl rfl rfl rfl (.inl rfl) rfl rfl rfl rfl rfl
    ·
      intro hg0
      refine WL.val (.inr ⟨_, _, _, rfl, rfl, rfl⟩) rfl (yl_move rfl) ?_
      refine WL.callp (.inr ⟨_, _, _, rfl, rfl, rfl⟩) rfl en11 rfl (fun w hw => lexCheck_any H a c l w (hw.vs _ (by simp)) hm) ?_
      refine WL.val (.inr ⟨_, _, _, rfl, rfl, rfl⟩) rfl (yl_move rfl) ?_
      refine WL.val (.inr ⟨_, _, _, rfl, rfl, rfl⟩) rfl (yl_eq rfl rfl) ?_
      exact Got.intro 4 rfl rfl rfl
    refine WL.val (.inl rfl) rfl (yl_move rfl) ?_
    apply WL.and 3 rfl rfl rfl rfl (.inl rfl) rfl rfl rfl rfl rfl
    ·
      intro hg1
      refine WL.val (.inr ⟨_, _, _, rfl, rfl, rfl⟩) rfl (yl_move rfl) ?_
      refine WL.val (.inr ⟨_, _, _, rfl, rfl, rfl⟩) rfl (yl_move rfl) ?_
      refine WL.val (.inr ⟨_, _, _, rfl, rfl, rfl⟩) rfl (yl_eq rfl rfl) ?_
      exact Got.intro 3 rfl rfl rfl
    refine WL.val (.inl rfl) rfl (yl_move rfl) ?_
    apply WL.and 3 rfl rfl rfl rfl (.inl rfl) rfl rfl rfl rfl rfl
    ·
      intro hg2
      refine WL.val (.inr ⟨_, _, _, rfl, rfl, rfl⟩) rfl (yl_move rfl) ?_
      refine WL.val (.inr ⟨_, _, _, rfl, rfl, rfl⟩) rfl (yl_move rfl) ?_
      refine WL.val (.inr ⟨_, _, _, rfl, rfl, rfl⟩) rfl (yl_eqs rfl rfl) ?_
      exact Got.intro 3 rfl rfl rfl
    refine WL.val (.inl rfl) rfl (yl_assign rfl) ?_
    refine WL.nil ?_
    refine WE.then_normal ?_
    refine WC.ret ?_
    refine WE.ret1 rfl rfl fun w' hw => ?_
    exact ⟨by simp [hS, hc], hw.fr⟩
  ·
    have hc : ¬ checkT l = 0 := by simpa using hc0
    have hS : showT l = ([], checkT l) := by rw [showT, if_neg hc]
    refine WC.skip ?_
    refine WE.then_normal ?_
    refine WC.seq ?_
    refine WC.region ?_
    refine WL.callp (.inl rfl) rfl en10 rfl (fun w hw => lexBegun_any G w (hw.vs _ (by simp)) hz) ?_
    refine WL.val (.inl rfl) rfl (yl_move rfl) ?_
    apply WL.and 4 rfl rfl rfl rfl (.inl rfl) rfl rfl rfl rfl rfl
    ·
      intro hg0
      refine WL.val (.inr ⟨_, _, _, rfl, rfl, rfl⟩) rfl (yl_move rfl) ?_
      refine WL.callp (.inr ⟨_, _, _, rfl, rfl, rfl⟩) rfl en11 rfl (fun w hw => lexCheck_any H a c l w (hw.vs _ (by simp)) hm) ?_
      refine WL.val (.inr ⟨_, _, _, rfl, rfl, rfl⟩) rfl (yl_move rfl) ?_
      refine WL.val (.inr ⟨_, _, _, rfl, rfl, rfl⟩) rfl (yl_eq rfl rfl) ?_
      exact Got.intro 4 rfl rfl rfl
    refine WL.val (.inl rfl) rfl (yl_move rfl) ?_
    apply WL.and 3 rfl rfl rfl rfl (.inl rfl) rfl rfl rfl rfl rfl
    ·
      intro hg1
      refine WL.val (.inr ⟨_, _, _, rfl, rfl, rfl⟩) rfl (yl_move rfl) ?_
      refine WL.val (.inr ⟨_, _, _, rfl, rfl, rfl⟩) rfl (yl_move rfl) ?_
      refine WL.val (.inr ⟨_, _, _, rfl, rfl, rfl⟩) rfl (yl_eq rfl rfl) ?_
      exact Got.intro 3 rfl rfl rfl
    refine WL.val (.inl rfl) rfl (yl_move rfl) ?_
    apply WL.and 3 rfl rfl rfl rfl (.inl rfl) rfl rfl rfl rfl rfl
    ·
      intro hg2
      refine WL.val (.inr ⟨_, _, _, rfl, rfl, rfl⟩) rfl (yl_move rfl) ?_
      refine WL.val (.inr ⟨_, _, _, rfl, rfl, rfl⟩) rfl (yl_move rfl) ?_
      refine WL.val (.inr ⟨_, _, _, rfl, rfl, rfl⟩) rfl (yl_eqs rfl rfl) ?_
      exact Got.intro 3 rfl rfl rfl
    refine WL.val (.inl rfl) rfl (yl_assign rfl) ?_
    refine WL.nil ?_
    refine WE.then_normal ?_
    refine WC.ret ?_
    refine WE.ret1 rfl rfl fun w' hw => ?_
    exact ⟨by simp [hS, hc], hw.fr⟩

theorem lexReads_any (G : View) (s : List UInt8) (w : World) (hG : Le G w) (hz : Laid G) :
    Calls Tryd.prog 4 #[st s] w fun e w' => e = .returned (.bool true) ∧ Ext w w' := by
  refine enter Tryd.func4 rfl 28 rfl rfl ?_
  refine WC.world (W' := Ws w [] [] [G]) (fun _ e => by subst e; exact Ws.init (by simp [hG])) ?_
  refine WC.seq ?_
  refine WC.region ?_
  refine WL.val (.inl rfl) rfl (yl_assign rfl) ?_
  refine WL.nil ?_
  refine WE.then_normal ?_
  refine WC.seq ?_
  refine WC.region ?_
  refine WL.val (.inl rfl) rfl (yl_move rfl) ?_
  refine WL.calld (.inl rfl) rfl en12 rfl (fun r : Option Addr × Nat => .tuple #[.slice r.1 ((lexR s).1).length r.2, .int .i64 ((lexR s).2)]) (fun H r => Sl rdTok 3 H r.1 r.2 ((lexR s).1)) (fun w hw => lex_any G s w (hw.vs _ (by simp)) hz) ?_
  intro F9 r9 hf9 h9
  refine WL.val (.inl rfl) rfl (yl_move rfl) ?_
  refine WL.val (.inl rfl) rfl (yl_extract rfl rfl) ?_
  refine WL.val (.inl rfl) rfl (yl_extract rfl rfl) ?_
  refine WL.val (.inl rfl) rfl (yl_assign rfl) ?_
  refine WL.val (.inl rfl) rfl (yl_assign rfl) ?_
  refine WL.nil ?_
  refine WE.then_normal ?_
  refine WC.seq ?_
  refine WC.region ?_
  refine WL.val (.inl rfl) rfl (yl_move rfl) ?_
  refine WL.calld (.inl rfl) rfl en13 rfl (fun r : Option Addr × Nat => .tuple #[.slice r.1 ((lexR s).1).length r.2, .int .i64 ((lexR s).2)]) (fun H r => Sl rdTok 3 H r.1 r.2 ((lexR s).1)) (fun w hw => lexOf_any s w) ?_
  intro F14 r14 hf14 h14
  refine WL.val (.inl rfl) rfl (yl_move rfl) ?_
  refine WL.val (.inl rfl) rfl (yl_extract rfl rfl) ?_
  refine WL.val (.inl rfl) rfl (yl_extract rfl rfl) ?_
  refine WL.val (.inl rfl) rfl (yl_assign rfl) ?_
  refine WL.val (.inl rfl) rfl (yl_assign rfl) ?_
  refine WL.nil ?_
  refine WE.then_normal ?_
  refine WC.seq ?_
  refine WC.region ?_
  refine WL.callp (.inl rfl) rfl en10 rfl (fun w hw => lexBegun_any G w (hw.vs _ (by simp)) hz) ?_
  refine WL.val (.inl rfl) rfl (yl_move rfl) ?_
  apply WL.and 3 rfl rfl rfl rfl (.inl rfl) rfl rfl rfl rfl rfl
  ·
    intro hg0
    refine WL.val (.inr ⟨_, _, _, rfl, rfl, rfl⟩) rfl (yl_move rfl) ?_
    refine WL.val (.inr ⟨_, _, _, rfl, rfl, rfl⟩) rfl (yl_move rfl) ?_
    refine WL.val (.inr ⟨_, _, _, rfl, rfl, rfl⟩) rfl (yl_eq rfl rfl) ?_
    exact Got.intro 3 rfl rfl rfl
  refine WL.val (.inl rfl) rfl (yl_move rfl) ?_
  apply WL.and 3 rfl rfl rfl rfl (.inl rfl) rfl rfl rfl rfl rfl
  ·
    intro hg1
    refine WL.val (.inr ⟨_, _, _, rfl, rfl, rfl⟩) rfl (yl_move rfl) ?_
    refine WL.val (.inr ⟨_, _, _, rfl, rfl, rfl⟩) rfl (yl_move rfl) ?_
    refine WL.callp (.inr ⟨_, _, _, rfl, rfl, rfl⟩) rfl en14 rfl (fun w hw => sameToks_any F9 F14 r9.1 r14.1 r9.2 r14.2 _ _ w (hw.vs _ (by simp)) (hw.vs _ (by simp)) h9 h14) ?_
    exact Got.intro 3 rfl rfl rfl
  refine WL.val (.inl rfl) rfl (yl_assign rfl) ?_
  refine WL.nil ?_
  refine WE.then_normal ?_
  refine WC.ret ?_
  refine WE.ret1 rfl rfl fun w' hw => ?_
  exact ⟨by simp, hw.fr⟩

theorem lexBack_any (G : View) (H : View) (a : Option Addr) (c : Nat) (l : List Tok) (w : World) (hG : Le G w) (hz : Laid G) (hH : Le H w) (hm : Sl rdTok 3 H a c l) (s : List UInt8) :
    Calls Tryd.prog 5 #[.slice a l.length c, st s] w fun e w' => e = .returned (.bool true) ∧ Ext w w' := by
  have hcap := hm.cap
  have hmax := hm.max
  refine enter Tryd.func5 rfl 51 rfl rfl ?_
  refine WC.world (W' := Ws w [] [] [G, H]) (fun _ e => by subst e; exact Ws.init (by simp [hG, hH])) ?_
  refine WC.seq ?_
  refine WC.region ?_
  refine WL.val (.inl rfl) rfl (yl_assign rfl) ?_
  refine WL.nil ?_
  refine WE.then_normal ?_
  refine WC.seq ?_
  refine WC.region ?_
  refine WL.val (.inl rfl) rfl (yl_move rfl) ?_
  refine WL.callp (.inl rfl) rfl en7 rfl (fun w hw => lexShow_any G H a c l w (hw.vs _ (by simp)) hz (hw.vs _ (by simp)) hm) ?_
  refine WL.val (.inl rfl) rfl (yl_move rfl) ?_
  refine WL.val (.inl rfl) rfl (yl_extract rfl rfl) ?_
  refine WL.val (.inl rfl) rfl (yl_extract rfl rfl) ?_
  refine WL.val (.inl rfl) rfl (yl_assign rfl) ?_
  refine WL.val (.inl rfl) rfl (yl_assign rfl) ?_
  refine WL.nil ?_
  refine WE.then_normal ?_
  refine WC.seq ?_
  refine WC.seq ?_
  refine WC.region ?_
  refine WL.val (.inl rfl) rfl (yl_move rfl) ?_
  refine WL.val (.inl rfl) rfl (yl_eq rfl rfl) ?_
  refine WL.val (.inl rfl) rfl (yl_move rfl) ?_
  apply WL.and 3 rfl rfl rfl rfl (.inl rfl) rfl rfl rfl rfl rfl
  ·
    intro hg0
    refine WL.val (.inr ⟨_, _, _, rfl, rfl, rfl⟩) rfl (yl_move rfl) ?_
    refine WL.val (.inr ⟨_, _, _, rfl, rfl, rfl⟩) rfl (yl_lens us9 rfl) ?_
    refine WL.val (.inr ⟨_, _, _, rfl, rfl, rfl⟩) rfl (yl_le rfl rfl) ?_
    exact Got.intro 3 rfl rfl rfl
  refine WL.nil ?_
  refine WE.then_normal ?_
  refine WC.cond rfl (fun hc0 => ?_) (fun hc0 => ?_)
  ·
    have hL : lexR (showT l).1 = (l, 0) := by
      simp only [Bool.and_eq_true, beq_iff_eq, decide_eq_true_eq] at hc0
      exact lex_show hc0.1 (by omega)
    refine WC.seq ?_
    refine WC.region ?_
    refine WL.val (.inl rfl) rfl (yl_move rfl) ?_
    refine WL.calld (.inl rfl) rfl en12 rfl (fun r : Option Addr × Nat => .tuple #[.slice r.1 (l).length r.2, .int .i64 (0)]) (fun H r => Sl rdTok 3 H r.1 r.2 (l)) (fun w hw => by
        have := lex_any G ((showT l).1) w (hw.vs _ (by simp)) hz
        rw [hL] at this
        exact this) ?_
    intro F25 r25 hf25 h25
    refine WL.val (.inl rfl) rfl (yl_move rfl) ?_
    refine WL.val (.inl rfl) rfl (yl_extract rfl rfl) ?_
    refine WL.val (.inl rfl) rfl (yl_extract rfl rfl) ?_
    refine WL.val (.inl rfl) rfl (yl_assign rfl) ?_
    refine WL.val (.inl rfl) rfl (yl_assign rfl) ?_
    refine WL.nil ?_
    refine WE.then_normal ?_
    refine WC.seq ?_
    refine WC.region ?_
    refine WL.val (.inl rfl) rfl (yl_move rfl) ?_
    refine WL.val (.inl rfl) rfl (yl_ne rfl rfl) ?_
    refine WL.val (.inl rfl) rfl (yl_move rfl) ?_
    apply WL.or 4 rfl rfl rfl rfl (.inl rfl) rfl rfl rfl rfl rfl
    ·
      intro hg1
      refine WL.val (.inr ⟨_, _, _, rfl, rfl, rfl⟩) rfl (yl_move rfl) ?_
      refine WL.val (.inr ⟨_, _, _, rfl, rfl, rfl⟩) rfl (yl_move rfl) ?_
      refine WL.callp (.inr ⟨_, _, _, rfl, rfl, rfl⟩) rfl en14 rfl (fun w hw => sameToks_any F25 H r25.1 a r25.2 c l l w (hw.vs _ (by simp)) (hw.vs _ (by simp)) h25 hm) ?_
      refine WL.val (.inr ⟨_, _, _, rfl, rfl, rfl⟩) rfl (yl_not rfl) ?_
      exact Got.intro 4 rfl rfl rfl
    refine WL.nil ?_
    refine WE.then_normal ?_
    refine WC.cond rfl (fun hc1 => ?_) (fun hc1 => ?_)
    ·
      simp at hc1
    ·
      refine WC.skip ?_
      refine WE.then_normal ?_
      refine WC.seq ?_
      refine WC.region ?_
      refine WL.val (.inl rfl) rfl (yl_move rfl) ?_
      refine WL.calld (.inl rfl) rfl en12 rfl (fun r : Option Addr × Nat => .tuple #[.slice r.1 ((lexR s).1).length r.2, .int .i64 ((lexR s).2)]) (fun H r => Sl rdTok 3 H r.1 r.2 ((lexR s).1)) (fun w hw => lex_any G s w (hw.vs _ (by simp)) hz) ?_
      intro F38 r38 hf38 h38
      refine WL.val (.inl rfl) rfl (yl_move rfl) ?_
      refine WL.val (.inl rfl) rfl (yl_extract rfl rfl) ?_
      refine WL.val (.inl rfl) rfl (yl_extract rfl rfl) ?_
      refine WL.val (.inl rfl) rfl (yl_assign rfl) ?_
      refine WL.val (.inl rfl) rfl (yl_assign rfl) ?_
      refine WL.nil ?_
      refine WE.then_normal ?_
      refine WC.seq ?_
      refine WC.region ?_
      refine WL.callp (.inl rfl) rfl en10 rfl (fun w hw => lexBegun_any G w (hw.vs _ (by simp)) hz) ?_
      refine WL.val (.inl rfl) rfl (yl_move rfl) ?_
      apply WL.and 7 rfl rfl rfl rfl (.inl rfl) rfl rfl rfl rfl rfl
      ·
        intro hg2
        refine WL.val (.inr ⟨_, _, _, rfl, rfl, rfl⟩) rfl (yl_move rfl) ?_
        refine WL.val (.inr ⟨_, _, _, rfl, rfl, rfl⟩) rfl (yl_ne rfl rfl) ?_
        refine WL.val (.inr ⟨_, _, _, rfl, rfl, rfl⟩) rfl (yl_move rfl) ?_
        apply WL.or 3 rfl rfl rfl rfl (.inr ⟨_, _, _, rfl, rfl, rfl⟩) rfl rfl rfl rfl rfl
        ·
          intro hg3
          refine WL.val (.inr ⟨_, _, _, rfl, rfl, rfl⟩) rfl (yl_move rfl) ?_
          refine WL.callp (.inr ⟨_, _, _, rfl, rfl, rfl⟩) rfl en11 rfl (fun w hw => lexCheck_any F38 r38.1 r38.2 _ w (hw.vs _ (by simp)) h38) ?_
          refine WL.val (.inr ⟨_, _, _, rfl, rfl, rfl⟩) rfl (yl_eq rfl rfl) ?_
          exact Got.intro 3 rfl rfl rfl
        exact Got.intro 4 rfl rfl rfl
      refine WL.val (.inl rfl) rfl (yl_assign rfl) ?_
      refine WL.nil ?_
      refine WE.then_normal ?_
      refine WC.ret ?_
      refine WE.ret1 rfl rfl fun w' hw => ?_
      exact ⟨by
        rcases Classical.em ((lexR s).2 = 0) with h | h
        · simp [lex_checks h]
        · simp [h], hw.fr⟩
  ·
    refine WC.skip ?_
    refine WE.then_normal ?_
    refine WC.seq ?_
    refine WC.region ?_
    refine WL.val (.inl rfl) rfl (yl_move rfl) ?_
    refine WL.calld (.inl rfl) rfl en12 rfl (fun r : Option Addr × Nat => .tuple #[.slice r.1 ((lexR s).1).length r.2, .int .i64 ((lexR s).2)]) (fun H r => Sl rdTok 3 H r.1 r.2 ((lexR s).1)) (fun w hw => lex_any G s w (hw.vs _ (by simp)) hz) ?_
    intro F38 r38 hf38 h38
    refine WL.val (.inl rfl) rfl (yl_move rfl) ?_
    refine WL.val (.inl rfl) rfl (yl_extract rfl rfl) ?_
    refine WL.val (.inl rfl) rfl (yl_extract rfl rfl) ?_
    refine WL.val (.inl rfl) rfl (yl_assign rfl) ?_
    refine WL.val (.inl rfl) rfl (yl_assign rfl) ?_
    refine WL.nil ?_
    refine WE.then_normal ?_
    refine WC.seq ?_
    refine WC.region ?_
    refine WL.callp (.inl rfl) rfl en10 rfl (fun w hw => lexBegun_any G w (hw.vs _ (by simp)) hz) ?_
    refine WL.val (.inl rfl) rfl (yl_move rfl) ?_
    apply WL.and 7 rfl rfl rfl rfl (.inl rfl) rfl rfl rfl rfl rfl
    ·
      intro hg2
      refine WL.val (.inr ⟨_, _, _, rfl, rfl, rfl⟩) rfl (yl_move rfl) ?_
      refine WL.val (.inr ⟨_, _, _, rfl, rfl, rfl⟩) rfl (yl_ne rfl rfl) ?_
      refine WL.val (.inr ⟨_, _, _, rfl, rfl, rfl⟩) rfl (yl_move rfl) ?_
      apply WL.or 3 rfl rfl rfl rfl (.inr ⟨_, _, _, rfl, rfl, rfl⟩) rfl rfl rfl rfl rfl
      ·
        intro hg3
        refine WL.val (.inr ⟨_, _, _, rfl, rfl, rfl⟩) rfl (yl_move rfl) ?_
        refine WL.callp (.inr ⟨_, _, _, rfl, rfl, rfl⟩) rfl en11 rfl (fun w hw => lexCheck_any F38 r38.1 r38.2 _ w (hw.vs _ (by simp)) h38) ?_
        refine WL.val (.inr ⟨_, _, _, rfl, rfl, rfl⟩) rfl (yl_eq rfl rfl) ?_
        exact Got.intro 3 rfl rfl rfl
      exact Got.intro 4 rfl rfl rfl
    refine WL.val (.inl rfl) rfl (yl_assign rfl) ?_
    refine WL.nil ?_
    refine WE.then_normal ?_
    refine WC.ret ?_
    refine WE.ret1 rfl rfl fun w' hw => ?_
    exact ⟨by
      rcases Classical.em ((lexR s).2 = 0) with h | h
      · simp [lex_checks h]
      · simp [h], hw.fr⟩

theorem lexJoin_any (G : View) (a b : List UInt8) (w : World) (hG : Le G w) (hz : Laid G) (ha9 : a.length ≤ 9223372036854775807) (hb9 : b.length ≤ 9223372036854775807) :
    Calls Tryd.prog 6 #[st a, st b] w fun e w' => e = .returned (.bool true) ∧ Ext w w' := by
  refine enter Tryd.func6 rfl 66 rfl rfl ?_
  refine WC.world (W' := Ws w [] [] [G]) (fun _ e => by subst e; exact Ws.init (by simp [hG])) ?_
  refine WC.seq ?_
  refine WC.region ?_
  refine WL.val (.inl rfl) rfl (yl_assign rfl) ?_
  refine WL.nil ?_
  refine WE.then_normal ?_
  refine WC.seq ?_
  refine WC.region ?_
  refine WL.val (.inl rfl) rfl (yl_move rfl) ?_
  refine WL.calld (.inl rfl) rfl en12 rfl (fun r : Option Addr × Nat => .tuple #[.slice r.1 ((lexR a).1).length r.2, .int .i64 ((lexR a).2)]) (fun H r => Sl rdTok 3 H r.1 r.2 ((lexR a).1)) (fun w hw => lex_any G a w (hw.vs _ (by simp)) hz) ?_
  intro F13 r13 hf13 h13
  refine WL.val (.inl rfl) rfl (yl_move rfl) ?_
  refine WL.val (.inl rfl) rfl (yl_extract rfl rfl) ?_
  refine WL.val (.inl rfl) rfl (yl_extract rfl rfl) ?_
  refine WL.val (.inl rfl) rfl (yl_assign rfl) ?_
  refine WL.val (.inl rfl) rfl (yl_assign rfl) ?_
  refine WL.nil ?_
  refine WE.then_normal ?_
  refine WC.seq ?_
  refine WC.region ?_
  refine WL.val (.inl rfl) rfl (yl_move rfl) ?_
  refine WL.calld (.inl rfl) rfl en12 rfl (fun r : Option Addr × Nat => .tuple #[.slice r.1 ((lexR b).1).length r.2, .int .i64 ((lexR b).2)]) (fun H r => Sl rdTok 3 H r.1 r.2 ((lexR b).1)) (fun w hw => lex_any G b w (hw.vs _ (by simp)) hz) ?_
  intro F18 r18 hf18 h18
  refine WL.val (.inl rfl) rfl (yl_move rfl) ?_
  refine WL.val (.inl rfl) rfl (yl_extract rfl rfl) ?_
  refine WL.val (.inl rfl) rfl (yl_extract rfl rfl) ?_
  refine WL.val (.inl rfl) rfl (yl_assign rfl) ?_
  refine WL.val (.inl rfl) rfl (yl_assign rfl) ?_
  refine WL.nil ?_
  refine WE.then_normal ?_
  refine WC.seq ?_
  refine WC.seq ?_
  refine WC.region ?_
  refine WL.val (.inl rfl) rfl (yl_move rfl) ?_
  refine WL.val (.inl rfl) rfl (yl_lens us9 rfl) ?_
  refine WL.val (.inl rfl) rfl (yl_gt rfl rfl) ?_
  refine WL.val (.inl rfl) rfl (yl_move rfl) ?_
  apply WL.or 6 rfl rfl rfl rfl (.inl rfl) rfl rfl rfl rfl rfl
  ·
    intro hg0
    have hal : a.length ≤ 4096 := by simp at hg0; omega
    refine WL.val (.inr ⟨_, _, _, rfl, rfl, rfl⟩) rfl (yl_move rfl) ?_
    refine WL.val (.inr ⟨_, _, _, rfl, rfl, rfl⟩) rfl (yl_lens us9 rfl) ?_
    refine WL.val (.inr ⟨_, _, _, rfl, rfl, rfl⟩) rfl (yl_move rfl) ?_
    refine WL.val (.inr ⟨_, _, _, rfl, rfl, rfl⟩) rfl (yl_lens us9 rfl) ?_
    refine WL.val (.inr ⟨_, _, _, rfl, rfl, rfl⟩) rfl (yl_subv ((4096 : Int) - a.length) rfl rfl rfl (by omega)) ?_
    refine WL.val (.inr ⟨_, _, _, rfl, rfl, rfl⟩) rfl (yl_ge rfl rfl) ?_
    exact Got.intro 6 rfl rfl rfl
  refine WL.nil ?_
  refine WE.then_normal ?_
  refine WC.cond rfl (fun hc0 => ?_) (fun hc0 => ?_)
  ·
    refine WC.seq ?_
    refine WC.region ?_
    refine WL.callp (.inl rfl) rfl en10 rfl (fun w hw => lexBegun_any G w (hw.vs _ (by simp)) hz) ?_
    refine WL.val (.inl rfl) rfl (yl_assign rfl) ?_
    refine WL.nil ?_
    refine WE.then_normal ?_
    refine WC.ret ?_
    refine WE.then_ret ?_
    refine WE.ret1 rfl rfl fun w' hw => ?_
    exact ⟨rfl, hw.fr⟩
  ·
    have hsz : a.length + 1 + b.length ≤ 4096 := by simp at hc0; omega
    have hJ := lex_join2 hsz
    have hla : (lexR a).1.length ≤ 4096 := by
      rcases lexR_num a with h | h
      · have := checkT_zero (lex_checks h); omega
      · simp [h.2]
    have hlb : (lexR b).1.length ≤ 4096 := by
      rcases lexR_num b with h | h
      · have := checkT_zero (lex_checks h); omega
      · simp [h.2]
    refine WC.skip ?_
    refine WE.then_normal ?_
    refine WC.seq ?_
    refine WC.region ?_
    refine WL.val (.inl rfl) rfl (yl_move rfl) ?_
    refine WL.val (.inl rfl) rfl (yl_cats (b := [32]) rfl rfl (show _ + 1 ≤ _ by omega)) ?_
    refine WL.val (.inl rfl) rfl (yl_move rfl) ?_
    refine WL.val (.inl rfl) rfl (yl_cats rfl rfl (by simp; omega)) ?_
    refine WL.calld (.inl rfl) rfl en12 rfl (fun r : Option Addr × Nat => .tuple #[.slice r.1 ((lexR (a ++ [32] ++ b)).1).length r.2, .int .i64 ((lexR (a ++ [32] ++ b)).2)]) (fun H r => Sl rdTok 3 H r.1 r.2 ((lexR (a ++ [32] ++ b)).1)) (fun w hw => lex_any G (a ++ [32] ++ b) w (hw.vs _ (by simp)) hz) ?_
    intro F38 r38 hf38 h38
    refine WL.val (.inl rfl) rfl (yl_move rfl) ?_
    refine WL.val (.inl rfl) rfl (yl_extract rfl rfl) ?_
    refine WL.val (.inl rfl) rfl (yl_extract rfl rfl) ?_
    refine WL.val (.inl rfl) rfl (yl_assign rfl) ?_
    refine WL.val (.inl rfl) rfl (yl_assign rfl) ?_
    refine WL.nil ?_
    refine WE.then_normal ?_
    refine WC.seq ?_
    refine WC.seq ?_
    refine WC.region ?_
    refine WL.val (.inl rfl) rfl (yl_move rfl) ?_
    refine WL.val (.inl rfl) rfl (yl_ne rfl rfl) ?_
    refine WL.val (.inl rfl) rfl (yl_move rfl) ?_
    apply WL.or 2 rfl rfl rfl rfl (.inl rfl) rfl rfl rfl rfl rfl
    ·
      intro hg1
      refine WL.val (.inr ⟨_, _, _, rfl, rfl, rfl⟩) rfl (yl_move rfl) ?_
      refine WL.val (.inr ⟨_, _, _, rfl, rfl, rfl⟩) rfl (yl_ne rfl rfl) ?_
      exact Got.intro 2 rfl rfl rfl
    refine WL.nil ?_
    refine WE.then_normal ?_
    refine WC.cond rfl (fun hc1 => ?_) (fun hc1 => ?_)
    ·
      have hR : lexR (a ++ [32] ++ b) = ([], 1) := by
        rw [hJ, if_neg]
        rintro ⟨h1, h2⟩
        simp [h1, h2] at hc1
      refine WC.seq ?_
      refine WC.region ?_
      refine WL.callp (.inl rfl) rfl en10 rfl (fun w hw => lexBegun_any G w (hw.vs _ (by simp)) hz) ?_
      refine WL.val (.inl rfl) rfl (yl_move rfl) ?_
      apply WL.and 2 rfl rfl rfl rfl (.inl rfl) rfl rfl rfl rfl rfl
      ·
        intro hg2
        refine WL.val (.inr ⟨_, _, _, rfl, rfl, rfl⟩) rfl (yl_move rfl) ?_
        refine WL.val (.inr ⟨_, _, _, rfl, rfl, rfl⟩) rfl (yl_eq rfl rfl) ?_
        exact Got.intro 2 rfl rfl rfl
      refine WL.val (.inl rfl) rfl (yl_assign rfl) ?_
      refine WL.nil ?_
      refine WE.then_normal ?_
      refine WC.ret ?_
      refine WE.then_ret ?_
      refine WE.ret1 rfl rfl fun w' hw => ?_
      exact ⟨by rw [hR]; rfl, hw.fr⟩
    ·
      have hR : lexR (a ++ [32] ++ b) = ((lexR a).1 ++ (lexR b).1, 0) := by
        rw [hJ, if_pos]
        simpa using hc1
      refine WC.skip ?_
      refine WE.then_normal ?_
      refine WC.seq ?_
      refine WC.region ?_
      refine WL.callp (.inl rfl) rfl en10 rfl (fun w hw => lexBegun_any G w (hw.vs _ (by simp)) hz) ?_
      refine WL.val (.inl rfl) rfl (yl_move rfl) ?_
      apply WL.and 2 rfl rfl rfl rfl (.inl rfl) rfl rfl rfl rfl rfl
      ·
        intro hg3
        refine WL.val (.inr ⟨_, _, _, rfl, rfl, rfl⟩) rfl (yl_move rfl) ?_
        refine WL.val (.inr ⟨_, _, _, rfl, rfl, rfl⟩) rfl (yl_eq rfl rfl) ?_
        exact Got.intro 2 rfl rfl rfl
      refine WL.val (.inl rfl) rfl (yl_move rfl) ?_
      apply WL.and 7 rfl rfl rfl rfl (.inl rfl) rfl rfl rfl rfl rfl
      ·
        intro hg4
        refine WL.val (.inr ⟨_, _, _, rfl, rfl, rfl⟩) rfl (yl_move rfl) ?_
        refine WL.bslice (.inr ⟨_, _, _, rfl, rfl, rfl⟩) rfl el22 rfl rfl rfl fun b59 => ?_
        refine WL.asOsl (size := 3) 0 rfl (Nat.le_refl 0) (Nat.zero_le _) rfl ?_
        refine WL.reosl 0 ([] : List Tok).length (([] : List Tok).flatMap Tok.cells) rfl rfl rfl ?_
        refine WL.val (.inr ⟨_, _, _, rfl, rfl, rfl⟩) rfl (yl_move rfl) ?_
        refine WL.appendL (ys := (lexR a).1) (xs := []) 0 (fun _ => F13) (.inr ⟨_, _, _, rfl, rfl, rfl⟩) rfl el22 rfl rfl rfl (fun w hw => ⟨hw.vs F13 (by simp), h13⟩) (fun _ _ _ _ h => h) Tok.cells_len tok_one (by simp; omega) (by simp; omega) fun a61 c61 => ?_
        refine WL.val (.inr ⟨_, _, _, rfl, rfl, rfl⟩) rfl (yl_move rfl) ?_
        refine WL.appendL (ys := (lexR b).1) (xs := [] ++ (lexR a).1) 0 (fun _ => F18) (.inr ⟨_, _, _, rfl, rfl, rfl⟩) rfl el22 rfl rfl rfl (fun w hw => ⟨hw.vs F18 (by simp), h18⟩) (fun _ _ _ _ h => h) Tok.cells_len tok_one (by simp; omega) (by simp; omega) fun a63 c63 => ?_
        refine WL.callp (.inr ⟨_, _, _, rfl, rfl, rfl⟩) rfl en14 rfl (fun w hw => sameToks_any F38 (hv w) r38.1 a63 r38.2 c63 _ _ w (hw.vs _ (by simp)) (hv_le w) h38 (hw.slTh 0 rfl Tok.cells_len (fun _ _ _ _ h => h))) ?_
        refine WL.wk ?_ (Got.intro 7 rfl rfl rfl)
        exact fun _ h => Ws.drop (L := [_]) h
      refine WL.val (.inl rfl) rfl (yl_assign rfl) ?_
      refine WL.nil ?_
      refine WE.then_normal ?_
      refine WC.ret ?_
      refine WE.ret1 rfl rfl fun w' hw => ?_
      exact ⟨by rw [hR]; simp, hw.fr⟩

end Go.Proofs.YtcjloelhjnnhmaaDoor
