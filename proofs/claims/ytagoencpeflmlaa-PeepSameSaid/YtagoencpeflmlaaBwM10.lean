/- Walks of the machine that the compiler hands over, and plain laws on what they compute; each theorem tells its own conditions. -/
import Derived.Test.YtagoencpeflmlaaBwM9
namespace Go.Proofs.Ytagoencpeflmlaa
open Go.Bw
set_option linter.unusedVariables false
set_option linter.unusedSimpArgs false

abbrev MSt.tk (s : MSt) : MSt := { s with steps := IntKind.i64.wrap (s.steps + 1) }
theorem MSt.good.tk {HI : View} {s : MSt} (h : s.good HI) : MSt.good HI (MSt.tk s) := ⟨h.inp, h.stk, h.frs, h.out, h.dat⟩
theorem check_data {code : List Ins} {data : Int} (h : checkImg code data = 0) : 0 ≤ data ∧ data ≤ 512 := by
  unfold checkImg at h
  split at h
  · cases h
  · split at h
    · cases h
    · split at h
      · cases h
      · rename_i hd; simp at hd; omega
theorem made_fr : madeCells (Value.agg #[.slice none 0 0, .int .i64 0]).cells ((1 : Int).toNat * 2) = #[.slice none 0 0, .int .i64 0] := by kernel_rfl
theorem run_ov {code : List Ins} {lim : Int} {m m' : Pm} {e : Int} (k : Nat) (h : iterM code lim m = .ov e m') : runK code lim (k + 1) m = (e, m') := by simp [runK, h]
theorem run_ok {code : List Ins} {lim : Int} {m m' : Pm} (k : Nat) (h : iterM code lim m = .ok () m') : runK code lim (k + 1) m = runK code lim k m' := by simp [runK, h]
theorem zr53 : zeroOf Try.prog 53 = some (.agg #[.int .i64 0, .slice none 0 0, .slice none 0 0, .int .i64 0]) := by kernel_rfl
theorem zr3 : zeroOf Try.prog 3 = some (.int .i64 0) := by kernel_rfl
theorem zr26 : zeroOf Try.prog 26 = some (.int .i64 0) := by kernel_rfl
theorem pl53 : placesP Try.prog 53 = some [(0, 1), (1, 1), (2, 1), (3, 1)] := by kernel_rfl
theorem na26 : nonAgg Try.prog 26 = true := by kernel_rfl
theorem en62 : Enters Try.prog 62 := enters_of Try.func62 (by kernel_rfl) rfl
theorem pl108 : placesP Try.prog 108 = some [(0, 1), (1, 1), (2, 1), (3, 1), (4, 1), (5, 1), (6, 4)] := by kernel_rfl
theorem zr108 : zeroOf Try.prog 108 = some (.agg #[.int .i64 0, .int .i64 0, .int .i64 0, .slice none 0 0, .slice none 0 0, .slice none 0 0, .int .i64 0, .slice none 0 0, .slice none 0 0, .int .i64 0]) := by kernel_rfl
theorem zr104 : zeroOf Try.prog 104 = some (.pointer none) := by kernel_rfl
theorem sz104 : sizeP Try.prog 104 = some 1 := by kernel_rfl
theorem en63 : Enters Try.prog 63 := enters_of Try.func63 (by kernel_rfl) rfl
theorem en65 : Enters Try.prog 65 := enters_of Try.func65 (by kernel_rfl) rfl

set_option maxHeartbeats 4000000 in
theorem machRun_any (H : View) (a : Option Addr) (c : Nat) (code : List Ins) (data : Int) (Hi : View) (ai : Option Addr) (ci : Nat) (inp : List Int) (ticks steps : Int) (w : World) (hH : Le H w) (hm : Sl rdIns 3 H a c code) (hHi : Le Hi w) (hmi : Sl rdI 1 Hi ai ci inp) :
    Calls Try.prog 24 #[.agg #[.slice a code.length c, .int .i64 data], .slice ai inp.length ci, .int .i64 ticks, .int .i64 steps] w fun e w' => ∃ r : (Option Addr × Nat) × (Option Addr × Nat), e = .returned (.tuple #[.agg #[.int .i64 (machR code data inp ticks steps).1.fin, .slice r.1.1 (machR code data inp ticks steps).1.out.length r.1.2, .slice r.2.1 (machR code data inp ticks steps).1.data.length r.2.2, .int .i64 (machR code data inp ticks steps).1.ticks], .int .i64 (machR code data inp ticks steps).2, .int .i64 (machE code data inp ticks steps)]) ∧ Ext w w' ∧ Sl rdI 1 (nv w w') r.1.1 r.1.2 (machR code data inp ticks steps).1.out ∧ Sl rdI 1 (nv w w') r.2.1 r.2.2 (machR code data inp ticks steps).1.data := by
  have hcap := hm.cap
  have hmax := hm.max
  have hcapi := hmi.cap
  have hmaxi := hmi.max
  refine enterD Try.func24 rfl 92 rfl rfl ?_
  refine WC.world (W' := Ws w [] [] [H, Hi]) (fun _ e => by subst e; exact Ws.init (by simp [hH, hHi])) ?_
  refine WC.seq ?_
  refine WC.region ?_
  refine WL.box (.inl rfl) rfl rfl fun b4 => ?_
  refine WL.alloc (.inl rfl) rfl zr53 fun b8 => ?_
  refine WL.alloc (.inl rfl) rfl zr3 fun b9 => ?_
  refine WL.alloc (.inl rfl) rfl zr26 fun b10 => ?_
  refine WL.nil ?_
  refine WE.then_normal ?_
  refine WC.seq ?_
  refine WC.seq ?_
  refine WC.region ?_
  refine WL.val (.inl rfl) rfl (yl_ldka 3 rfl rfl ag24 rfl) ?_
  refine WL.callp (.inl rfl) rfl en28 rfl (fun w hw => check_any H a c code data w (hw.vs _ (by simp)) hm) ?_
  refine WL.val (.inl rfl) rfl (yl_assign rfl) ?_
  refine WL.nil ?_
  refine WE.then_normal ?_
  refine WC.seq ?_
  refine WC.region ?_
  refine WL.val (.inl rfl) rfl (yl_move rfl) ?_
  refine WL.val (.inl rfl) rfl (yl_ne rfl rfl) ?_
  refine WL.nil ?_
  refine WE.then_normal ?_
  refine WC.cond rfl (fun hc0 => ?_) (fun hc0 => ?_)
  ·
    have hz : ¬ checkImg code data = 0 := by simpa using hc0
    refine WC.seq ?_
    refine WC.region ?_
    refine WL.val (.inl rfl) rfl (yl_build zr53 pl53 rfl rfl) ?_
    refine WL.val (.inl rfl) rfl (yl_move rfl) ?_
    refine WL.store 2 (.inl rfl) rfl rfl rfl sz53 rfl rfl rfl ?_
    refine WL.store 1 (.inl rfl) rfl rfl rfl sz3 rfl rfl rfl ?_
    refine WL.store 0 (.inl rfl) rfl rfl rfl sz26 rfl rfl rfl ?_
    refine WL.nil ?_
    refine WE.then_normal ?_
    refine WC.ret ?_
    refine WE.then_ret ?_
    refine WE.retD0 (rs_3 rfl (rv_agg 2 rfl rfl ag53 rfl) (rv_one 1 rfl rfl rfl na3) (rv_one 0 rfl rfl rfl na26)) fun w' hw => ?_
    have hE : (machE code data inp ticks steps) = checkImg code data := by unfold machE; rw [if_neg hz]
    have hM : (machR code data inp ticks steps) = (⟨0, [], [], 0⟩, 0) := by unfold machR; rw [hE]; simp [hz]
    rw [hM, hE]
    exact ⟨((none, 0), (none, 0)), rfl, hw.fr, Sl.nil, Sl.nil⟩
  ·
    have hz : checkImg code data = 0 := by simpa using hc0
    have hd := check_data hz
    refine WC.skip ?_
    refine WE.then_normal ?_
    refine WC.seq ?_
    refine WC.seq ?_
    refine WC.region ?_
    refine WL.val (.inl rfl) rfl (yl_move rfl) ?_
    refine WL.val (.inl rfl) rfl (yl_len es50 rfl) ?_
    refine WL.val (.inl rfl) rfl (yl_gt rfl rfl) ?_
    refine WL.nil ?_
    refine WE.then_normal ?_
    refine WC.cond rfl (fun hc1 => ?_) (fun hc1 => ?_)
    ·
      have hl : 64 < inp.length := by simp at hc1; omega
      refine WC.seq ?_
      refine WC.region ?_
      refine WL.val (.inl rfl) rfl (yl_build zr53 pl53 rfl rfl) ?_
      refine WL.store 2 (.inl rfl) rfl rfl rfl sz53 rfl rfl rfl ?_
      refine WL.store 1 (.inl rfl) rfl rfl rfl sz3 rfl rfl rfl ?_
      refine WL.store 0 (.inl rfl) rfl rfl rfl sz26 rfl rfl rfl ?_
      refine WL.nil ?_
      refine WE.then_normal ?_
      refine WC.ret ?_
      refine WE.then_ret ?_
      refine WE.retD0 (rs_3 rfl (rv_agg 2 rfl rfl ag53 rfl) (rv_one 1 rfl rfl rfl na3) (rv_one 0 rfl rfl rfl na26)) fun w' hw => ?_
      have hE : (machE code data inp ticks steps) = 2 := by unfold machE; rw [if_pos hz, if_pos hl]
      have hM : (machR code data inp ticks steps) = (⟨0, [], [], 0⟩, 0) := by unfold machR; rw [hE]; simp
      rw [hM, hE]
      exact ⟨((none, 0), (none, 0)), rfl, hw.fr, Sl.nil, Sl.nil⟩
    ·
      have hl : ¬ 64 < inp.length := by simp at hc1; omega
      refine WC.skip ?_
      refine WE.then_normal ?_
      refine WC.seq ?_
      refine WC.seq ?_
      refine WC.region ?_
      refine WL.val (.inl rfl) rfl (yl_move rfl) ?_
      refine WL.val (.inl rfl) rfl (yl_lt rfl rfl) ?_
      refine WL.val (.inl rfl) rfl (yl_move rfl) ?_
      apply WL.or 2 rfl rfl rfl rfl (.inl rfl) rfl rfl rfl rfl rfl
      ·
        intro hg0
        refine WL.val (.inr ⟨_, _, _, rfl, rfl, rfl⟩) rfl (yl_move rfl) ?_
        refine WL.val (.inr ⟨_, _, _, rfl, rfl, rfl⟩) rfl (yl_gt rfl rfl) ?_
        exact Got.intro 2 rfl rfl rfl
      refine WL.val (.inl rfl) rfl (yl_move rfl) ?_
      apply WL.or 2 rfl rfl rfl rfl (.inl rfl) rfl rfl rfl rfl rfl
      ·
        intro hg1
        refine WL.val (.inr ⟨_, _, _, rfl, rfl, rfl⟩) rfl (yl_move rfl) ?_
        refine WL.val (.inr ⟨_, _, _, rfl, rfl, rfl⟩) rfl (yl_lt rfl rfl) ?_
        exact Got.intro 2 rfl rfl rfl
      refine WL.val (.inl rfl) rfl (yl_move rfl) ?_
      apply WL.or 2 rfl rfl rfl rfl (.inl rfl) rfl rfl rfl rfl rfl
      ·
        intro hg2
        refine WL.val (.inr ⟨_, _, _, rfl, rfl, rfl⟩) rfl (yl_move rfl) ?_
        refine WL.val (.inr ⟨_, _, _, rfl, rfl, rfl⟩) rfl (yl_gt rfl rfl) ?_
        exact Got.intro 2 rfl rfl rfl
      refine WL.nil ?_
      refine WE.then_normal ?_
      refine WC.cond rfl (fun hc2 => ?_) (fun hc2 => ?_)
      ·
        refine WC.seq ?_
        refine WC.region ?_
        refine WL.val (.inl rfl) rfl (yl_build zr53 pl53 rfl rfl) ?_
        refine WL.store 2 (.inl rfl) rfl rfl rfl sz53 rfl rfl rfl ?_
        refine WL.store 1 (.inl rfl) rfl rfl rfl sz3 rfl rfl rfl ?_
        refine WL.store 0 (.inl rfl) rfl rfl rfl sz26 rfl rfl rfl ?_
        refine WL.nil ?_
        refine WE.then_normal ?_
        refine WC.ret ?_
        refine WE.then_ret ?_
        refine WE.retD0 (rs_3 rfl (rv_agg 2 rfl rfl ag53 rfl) (rv_one 1 rfl rfl rfl na3) (rv_one 0 rfl rfl rfl na26)) fun w' hw => ?_
        have hE : (machE code data inp ticks steps) = 3 := by unfold machE; rw [if_pos hz, if_neg hl, if_pos hc2]
        have hM : (machR code data inp ticks steps) = (⟨0, [], [], 0⟩, 0) := by unfold machR; rw [hE]; simp
        rw [hM, hE]
        exact ⟨((none, 0), (none, 0)), rfl, hw.fr, Sl.nil, Sl.nil⟩
      ·
        have hE : (machE code data inp ticks steps) = 0 := by unfold machE; rw [if_pos hz, if_neg hl, hc2]; simp
        have hts : 0 ≤ ticks ∧ ticks ≤ 2000 ∧ 0 ≤ steps ∧ steps ≤ 134217728 := by simp at hc2; omega
        refine WC.skip ?_
        refine WE.then_normal ?_
        refine WC.cutE (ι := (Nat × Nat × Nat) × (View × Option Addr × Nat)) (fun q => [(3, .int .i64 steps), (4, .pointer (some ⟨b4, 0, none⟩)), (8, .pointer (some ⟨b8, 0, none⟩)), (9, .pointer (some ⟨b9, 0, none⟩)), (10, .pointer (some ⟨b10, 0, none⟩)), (12, .pointer (some ⟨q.1.2.2, 0, none⟩))]) (fun q => Ws w [] [blk q.1.2.2 (.cells #[.pointer (some ⟨q.1.2.1, 0, none⟩)] 104 (0, 0)), blk q.1.2.1 (.cells #[.int .i64 0, .int .i64 ticks, .int .i64 0, .slice none 0 0, .slice (some ⟨q.1.1, 0, none⟩) 1 1, .slice q.2.2.1 inp.length q.2.2.2, .int .i64 0, .slice none 0 0, .slice none 0 0, .int .i64 0] 108 (0, 0)), blk q.1.1 (.cells #[.slice none 0 0, .int .i64 0] 137 (0, 0)), blk b10 (.cells (Value.cells (.int .i64 0)) 26 (0, 0)), blk b9 (.cells (Value.cells (.int .i64 0)) 3 (0, 0)), blk b8 (.cells (Value.cells (.agg #[.int .i64 0, .slice none 0 0, .slice none 0 0, .int .i64 0])) 53 (0, 0)), blk b4 (.cells (Value.agg #[.slice a code.length c, .int .i64 data]).cells 24 (0, 0))] [q.2.1, H]) (fun q => Sl rdI 1 q.2.1 q.2.2.1 q.2.2.2 inp) ?_ ?_
        ·
          refine WC.drawU (noRes [.cell 8 53, .cell 9 3, .cell 10 26]) [] [7] (.q false 0 (.q false 2 (.e 1 (.e 3 (.q false 4 (.e 5 (.e 6 .nil .stop) (.e 6 (.e 5 .nil .stop) .stop))) (.e 6 (.e 3 (.q false 4 (.e 5 .nil .stop)) .stop) .stop)) (.e 3 (.e 1 (.q false 4 (.e 5 (.e 6 .nil .stop) (.e 6 (.e 5 .nil .stop) .stop))) (.e 6 (.e 1 (.q false 4 (.e 5 .nil .stop)) .stop) .stop)) (.e 6 (.e 1 (.e 3 (.q false 4 (.e 5 .nil .stop)) .stop) (.e 3 (.e 1 (.q false 4 (.e 5 .nil .stop)) .stop) .stop)) .stop))))) mixed (by kernel_rfl) (fun _ _ _ _ _ hd h => bodyD_put (fn := Try.f24) [.cell 8 53, .cell 9 3, .cell 10 26] rfl hd h) ?_
          refine WU.q rfl (.inl rfl) rfl (fun _ h => h) (yl_move rfl) ?_
          refine WU.q rfl (.inl rfl) rfl (fun _ h => h) (yl_move rfl) ?_
          refine WU.e rfl (fun _ h => h) ?_ ?_
          ·
            refine WL.make (.inl rfl) rfl el105 rfl rfl (by omega) (by omega) (by omega) (by omega) fun b39 => ?_
            refine WL.reblk 0 (.cells #[.slice none 0 0, .int .i64 0] 137 (0, 0)) rfl (by rw [made_fr]) ?_
            refine WL.nil ?_
            refine WE.toU ?_
            refine WU.e rfl (fun _ h => by have h := Ws.drop (L := [_]) (L' := _) h; exact h) ?_ ?_
            ·
              refine WL.calld (.inl rfl) rfl en62 rfl (fun r : Option Addr × Nat => .slice r.1 inp.length r.2) (fun K r => Sl rdI 1 K r.1 r.2 inp) (fun w hw => cloneInts_any Hi ai ci inp w (hw.vs _ (by simp)) hmi (by omega)) ?_
              intro K41 r41 hf41 hk41
              refine WL.nil ?_
              refine WE.toU ?_
              refine WU.q rfl (.inl rfl) rfl (fun _ h => by have h := Ws.drop (L := [_]) (L' := _) h; have h := Ws.drops h (fun _ hm => List.mem_append_right [_] hm); exact h) (yl_build zr108 pl108 rfl rfl) ?_
              refine WU.e rfl (fun _ h => by have h := Ws.drop (L := [_]) (L' := _) h; have h := Ws.drops h (fun _ hm => List.mem_append_right [_] hm); exact h) ?_ ?_
              ·
                refine WL.box (.inl rfl) rfl rfl fun b43 => ?_
                refine WL.nil ?_
                refine WE.toU ?_
                refine WU.e rfl (fun _ h => by have h := Ws.drop (L := [_, _]) (L' := _) h; have h := Ws.drops h (fun _ hm => List.mem_append_right [_] hm); exact h) ?_ WU.stop
                refine WL.alloc (.inl rfl) rfl zr104 fun b12 => ?_
                refine WL.nil ?_
                refine WE.toU ?_
                refine WU.nil (fun _ h => by have h := Ws.drop (L := [_, _, _]) (L' := _) h; have h := Ws.drops h (fun _ hm => List.mem_append_right [_] hm); exact h) ?_
                refine WS.e rfl ?_
                refine WL.store 0 (.inl rfl) rfl rfl rfl sz104 rfl rfl rfl ?_
                refine WL.nil ?_
                refine WE.toS ?_
                refine WS.nil ?_
                exact WE.meetE ((b39, b43, b12), K41, r41.1, r41.2) hk41 (sc rfl (sc rfl (sc rfl (sc rfl (sc rfl (sc rfl sn)))))) (fun _ h => by
                  have h := h.fronti 6 rfl
                  have h := h.fronti 6 rfl
                  have h := h.fronti 6 rfl
                  have h := h.fronti 6 rfl
                  have h := h.fronti 6 rfl
                  have h := h.fronti 6 rfl
                  have h := h.fronti 6 rfl
                  have h := Ws.drops h (Vs' := [K41, H]) (by simp)
                  exact h)
              refine WU.e rfl (fun _ h => by have h := Ws.drop (L := [_]) (L' := _) h; have h := Ws.drops h (fun _ hm => List.mem_append_right [_] hm); exact h) ?_ WU.stop
              refine WL.alloc (.inl rfl) rfl zr104 fun b12 => ?_
              refine WL.nil ?_
              refine WE.toU ?_
              refine WU.e rfl (fun _ h => by have h := Ws.drop (L := [_, _]) (L' := _) h; have h := Ws.drops h (fun _ hm => List.mem_append_right [_] hm); exact h) ?_ WU.stop
              refine WL.box (.inl rfl) rfl rfl fun b43 => ?_
              refine WL.nil ?_
              refine WE.toU ?_
              refine WU.nil (fun _ h => by have h := Ws.drop (L := [_, _, _]) (L' := _) h; have h := Ws.drops h (fun _ hm => List.mem_append_right [_] hm); exact h) ?_
              refine WS.e rfl ?_
              refine WL.store 1 (.inl rfl) rfl rfl rfl sz104 rfl rfl rfl ?_
              refine WL.nil ?_
              refine WE.toS ?_
              refine WS.nil ?_
              exact WE.meetE ((b39, b43, b12), K41, r41.1, r41.2) hk41 (sc rfl (sc rfl (sc rfl (sc rfl (sc rfl (sc rfl sn)))))) (fun _ h => by
                have h := h.fronti 6 rfl
                have h := h.fronti 6 rfl
                have h := h.fronti 6 rfl
                have h := h.fronti 6 rfl
                have h := h.fronti 6 rfl
                have h := h.fronti 5 rfl
                have h := h.fronti 6 rfl
                have h := Ws.drops h (Vs' := [K41, H]) (by simp)
                exact h)
            refine WU.e rfl (fun _ h => by have h := Ws.drop (L := [_]) (L' := _) h; exact h) ?_ WU.stop
            refine WL.alloc (.inl rfl) rfl zr104 fun b12 => ?_
            refine WL.nil ?_
            refine WE.toU ?_
            refine WU.e rfl (fun _ h => by have h := Ws.drop (L := [_, _]) (L' := _) h; exact h) ?_ WU.stop
            refine WL.calld (.inl rfl) rfl en62 rfl (fun r : Option Addr × Nat => .slice r.1 inp.length r.2) (fun K r => Sl rdI 1 K r.1 r.2 inp) (fun w hw => cloneInts_any Hi ai ci inp w (hw.vs _ (by simp)) hmi (by omega)) ?_
            intro K41 r41 hf41 hk41
            refine WL.nil ?_
            refine WE.toU ?_
            refine WU.q rfl (.inl rfl) rfl (fun _ h => by have h := Ws.drop (L := [_, _]) (L' := _) h; have h := Ws.drops h (fun _ hm => List.mem_append_right [_] hm); exact h) (yl_build zr108 pl108 rfl rfl) ?_
            refine WU.e rfl (fun _ h => by have h := Ws.drop (L := [_, _]) (L' := _) h; have h := Ws.drops h (fun _ hm => List.mem_append_right [_] hm); exact h) ?_ WU.stop
            refine WL.box (.inl rfl) rfl rfl fun b43 => ?_
            refine WL.nil ?_
            refine WE.toU ?_
            refine WU.nil (fun _ h => by have h := Ws.drop (L := [_, _, _]) (L' := _) h; have h := Ws.drops h (fun _ hm => List.mem_append_right [_] hm); exact h) ?_
            refine WS.e rfl ?_
            refine WL.store 1 (.inl rfl) rfl rfl rfl sz104 rfl rfl rfl ?_
            refine WL.nil ?_
            refine WE.toS ?_
            refine WS.nil ?_
            exact WE.meetE ((b39, b43, b12), K41, r41.1, r41.2) hk41 (sc rfl (sc rfl (sc rfl (sc rfl (sc rfl (sc rfl sn)))))) (fun _ h => by
              have h := h.fronti 6 rfl
              have h := h.fronti 6 rfl
              have h := h.fronti 6 rfl
              have h := h.fronti 6 rfl
              have h := h.fronti 6 rfl
              have h := h.fronti 5 rfl
              have h := h.fronti 6 rfl
              have h := Ws.drops h (Vs' := [K41, H]) (by simp)
              exact h)
          refine WU.e rfl (fun _ h => h) ?_ ?_
          ·
            refine WL.calld (.inl rfl) rfl en62 rfl (fun r : Option Addr × Nat => .slice r.1 inp.length r.2) (fun K r => Sl rdI 1 K r.1 r.2 inp) (fun w hw => cloneInts_any Hi ai ci inp w (hw.vs _ (by simp)) hmi (by omega)) ?_
            intro K41 r41 hf41 hk41
            refine WL.nil ?_
            refine WE.toU ?_
            refine WU.e rfl (fun _ h => by have h := Ws.drops h (fun _ hm => List.mem_append_right [_] hm); exact h) ?_ ?_
            ·
              refine WL.make (.inl rfl) rfl el105 rfl rfl (by omega) (by omega) (by omega) (by omega) fun b39 => ?_
              refine WL.reblk 0 (.cells #[.slice none 0 0, .int .i64 0] 137 (0, 0)) rfl (by rw [made_fr]) ?_
              refine WL.nil ?_
              refine WE.toU ?_
              refine WU.q rfl (.inl rfl) rfl (fun _ h => by have h := Ws.drop (L := [_]) (L' := _) h; have h := Ws.drops h (fun _ hm => List.mem_append_right [_] hm); exact h) (yl_build zr108 pl108 rfl rfl) ?_
              refine WU.e rfl (fun _ h => by have h := Ws.drop (L := [_]) (L' := _) h; have h := Ws.drops h (fun _ hm => List.mem_append_right [_] hm); exact h) ?_ ?_
              ·
                refine WL.box (.inl rfl) rfl rfl fun b43 => ?_
                refine WL.nil ?_
                refine WE.toU ?_
                refine WU.e rfl (fun _ h => by have h := Ws.drop (L := [_, _]) (L' := _) h; have h := Ws.drops h (fun _ hm => List.mem_append_right [_] hm); exact h) ?_ WU.stop
                refine WL.alloc (.inl rfl) rfl zr104 fun b12 => ?_
                refine WL.nil ?_
                refine WE.toU ?_
                refine WU.nil (fun _ h => by have h := Ws.drop (L := [_, _, _]) (L' := _) h; have h := Ws.drops h (fun _ hm => List.mem_append_right [_] hm); exact h) ?_
                refine WS.e rfl ?_
                refine WL.store 0 (.inl rfl) rfl rfl rfl sz104 rfl rfl rfl ?_
                refine WL.nil ?_
                refine WE.toS ?_
                refine WS.nil ?_
                exact WE.meetE ((b39, b43, b12), K41, r41.1, r41.2) hk41 (sc rfl (sc rfl (sc rfl (sc rfl (sc rfl (sc rfl sn)))))) (fun _ h => by
                  have h := h.fronti 6 rfl
                  have h := h.fronti 6 rfl
                  have h := h.fronti 6 rfl
                  have h := h.fronti 6 rfl
                  have h := h.fronti 6 rfl
                  have h := h.fronti 6 rfl
                  have h := h.fronti 6 rfl
                  have h := Ws.drops h (Vs' := [K41, H]) (by simp)
                  exact h)
              refine WU.e rfl (fun _ h => by have h := Ws.drop (L := [_]) (L' := _) h; have h := Ws.drops h (fun _ hm => List.mem_append_right [_] hm); exact h) ?_ WU.stop
              refine WL.alloc (.inl rfl) rfl zr104 fun b12 => ?_
              refine WL.nil ?_
              refine WE.toU ?_
              refine WU.e rfl (fun _ h => by have h := Ws.drop (L := [_, _]) (L' := _) h; have h := Ws.drops h (fun _ hm => List.mem_append_right [_] hm); exact h) ?_ WU.stop
              refine WL.box (.inl rfl) rfl rfl fun b43 => ?_
              refine WL.nil ?_
              refine WE.toU ?_
              refine WU.nil (fun _ h => by have h := Ws.drop (L := [_, _, _]) (L' := _) h; have h := Ws.drops h (fun _ hm => List.mem_append_right [_] hm); exact h) ?_
              refine WS.e rfl ?_
              refine WL.store 1 (.inl rfl) rfl rfl rfl sz104 rfl rfl rfl ?_
              refine WL.nil ?_
              refine WE.toS ?_
              refine WS.nil ?_
              exact WE.meetE ((b39, b43, b12), K41, r41.1, r41.2) hk41 (sc rfl (sc rfl (sc rfl (sc rfl (sc rfl (sc rfl sn)))))) (fun _ h => by
                have h := h.fronti 6 rfl
                have h := h.fronti 6 rfl
                have h := h.fronti 6 rfl
                have h := h.fronti 6 rfl
                have h := h.fronti 6 rfl
                have h := h.fronti 5 rfl
                have h := h.fronti 6 rfl
                have h := Ws.drops h (Vs' := [K41, H]) (by simp)
                exact h)
            refine WU.e rfl (fun _ h => by have h := Ws.drops h (fun _ hm => List.mem_append_right [_] hm); exact h) ?_ WU.stop
            refine WL.alloc (.inl rfl) rfl zr104 fun b12 => ?_
            refine WL.nil ?_
            refine WE.toU ?_
            refine WU.e rfl (fun _ h => by have h := Ws.drop (L := [_]) (L' := _) h; have h := Ws.drops h (fun _ hm => List.mem_append_right [_] hm); exact h) ?_ WU.stop
            refine WL.make (.inl rfl) rfl el105 rfl rfl (by omega) (by omega) (by omega) (by omega) fun b39 => ?_
            refine WL.reblk 0 (.cells #[.slice none 0 0, .int .i64 0] 137 (0, 0)) rfl (by rw [made_fr]) ?_
            refine WL.nil ?_
            refine WE.toU ?_
            refine WU.q rfl (.inl rfl) rfl (fun _ h => by have h := Ws.drop (L := [_, _]) (L' := _) h; have h := Ws.drops h (fun _ hm => List.mem_append_right [_] hm); exact h) (yl_build zr108 pl108 rfl rfl) ?_
            refine WU.e rfl (fun _ h => by have h := Ws.drop (L := [_, _]) (L' := _) h; have h := Ws.drops h (fun _ hm => List.mem_append_right [_] hm); exact h) ?_ WU.stop
            refine WL.box (.inl rfl) rfl rfl fun b43 => ?_
            refine WL.nil ?_
            refine WE.toU ?_
            refine WU.nil (fun _ h => by have h := Ws.drop (L := [_, _, _]) (L' := _) h; have h := Ws.drops h (fun _ hm => List.mem_append_right [_] hm); exact h) ?_
            refine WS.e rfl ?_
            refine WL.store 2 (.inl rfl) rfl rfl rfl sz104 rfl rfl rfl ?_
            refine WL.nil ?_
            refine WE.toS ?_
            refine WS.nil ?_
            exact WE.meetE ((b39, b43, b12), K41, r41.1, r41.2) hk41 (sc rfl (sc rfl (sc rfl (sc rfl (sc rfl (sc rfl sn)))))) (fun _ h => by
              have h := h.fronti 6 rfl
              have h := h.fronti 6 rfl
              have h := h.fronti 6 rfl
              have h := h.fronti 6 rfl
              have h := h.fronti 5 rfl
              have h := h.fronti 5 rfl
              have h := h.fronti 6 rfl
              have h := Ws.drops h (Vs' := [K41, H]) (by simp)
              exact h)
          refine WU.e rfl (fun _ h => h) ?_ WU.stop
          refine WL.alloc (.inl rfl) rfl zr104 fun b12 => ?_
          refine WL.nil ?_
          refine WE.toU ?_
          refine WU.e rfl (fun _ h => by have h := Ws.drop (L := [_]) (L' := _) h; exact h) ?_ ?_
          ·
            refine WL.make (.inl rfl) rfl el105 rfl rfl (by omega) (by omega) (by omega) (by omega) fun b39 => ?_
            refine WL.reblk 0 (.cells #[.slice none 0 0, .int .i64 0] 137 (0, 0)) rfl (by rw [made_fr]) ?_
            refine WL.nil ?_
            refine WE.toU ?_
            refine WU.e rfl (fun _ h => by have h := Ws.drop (L := [_, _]) (L' := _) h; exact h) ?_ WU.stop
            refine WL.calld (.inl rfl) rfl en62 rfl (fun r : Option Addr × Nat => .slice r.1 inp.length r.2) (fun K r => Sl rdI 1 K r.1 r.2 inp) (fun w hw => cloneInts_any Hi ai ci inp w (hw.vs _ (by simp)) hmi (by omega)) ?_
            intro K41 r41 hf41 hk41
            refine WL.nil ?_
            refine WE.toU ?_
            refine WU.q rfl (.inl rfl) rfl (fun _ h => by have h := Ws.drop (L := [_, _]) (L' := _) h; have h := Ws.drops h (fun _ hm => List.mem_append_right [_] hm); exact h) (yl_build zr108 pl108 rfl rfl) ?_
            refine WU.e rfl (fun _ h => by have h := Ws.drop (L := [_, _]) (L' := _) h; have h := Ws.drops h (fun _ hm => List.mem_append_right [_] hm); exact h) ?_ WU.stop
            refine WL.box (.inl rfl) rfl rfl fun b43 => ?_
            refine WL.nil ?_
            refine WE.toU ?_
            refine WU.nil (fun _ h => by have h := Ws.drop (L := [_, _, _]) (L' := _) h; have h := Ws.drops h (fun _ hm => List.mem_append_right [_] hm); exact h) ?_
            refine WS.e rfl ?_
            refine WL.store 2 (.inl rfl) rfl rfl rfl sz104 rfl rfl rfl ?_
            refine WL.nil ?_
            refine WE.toS ?_
            refine WS.nil ?_
            exact WE.meetE ((b39, b43, b12), K41, r41.1, r41.2) hk41 (sc rfl (sc rfl (sc rfl (sc rfl (sc rfl (sc rfl sn)))))) (fun _ h => by
              have h := h.fronti 6 rfl
              have h := h.fronti 6 rfl
              have h := h.fronti 6 rfl
              have h := h.fronti 6 rfl
              have h := h.fronti 5 rfl
              have h := h.fronti 5 rfl
              have h := h.fronti 6 rfl
              have h := Ws.drops h (Vs' := [K41, H]) (by simp)
              exact h)
          refine WU.e rfl (fun _ h => by have h := Ws.drop (L := [_]) (L' := _) h; exact h) ?_ WU.stop
          refine WL.calld (.inl rfl) rfl en62 rfl (fun r : Option Addr × Nat => .slice r.1 inp.length r.2) (fun K r => Sl rdI 1 K r.1 r.2 inp) (fun w hw => cloneInts_any Hi ai ci inp w (hw.vs _ (by simp)) hmi (by omega)) ?_
          intro K41 r41 hf41 hk41
          refine WL.nil ?_
          refine WE.toU ?_
          refine WU.e rfl (fun _ h => by have h := Ws.drop (L := [_]) (L' := _) h; have h := Ws.drops h (fun _ hm => List.mem_append_right [_] hm); exact h) ?_ WU.stop
          refine WL.make (.inl rfl) rfl el105 rfl rfl (by omega) (by omega) (by omega) (by omega) fun b39 => ?_
          refine WL.reblk 0 (.cells #[.slice none 0 0, .int .i64 0] 137 (0, 0)) rfl (by rw [made_fr]) ?_
          refine WL.nil ?_
          refine WE.toU ?_
          refine WU.q rfl (.inl rfl) rfl (fun _ h => by have h := Ws.drop (L := [_, _]) (L' := _) h; have h := Ws.drops h (fun _ hm => List.mem_append_right [_] hm); exact h) (yl_build zr108 pl108 rfl rfl) ?_
          refine WU.e rfl (fun _ h => by have h := Ws.drop (L := [_, _]) (L' := _) h; have h := Ws.drops h (fun _ hm => List.mem_append_right [_] hm); exact h) ?_ WU.stop
          refine WL.box (.inl rfl) rfl rfl fun b43 => ?_
          refine WL.nil ?_
          refine WE.toU ?_
          refine WU.nil (fun _ h => by have h := Ws.drop (L := [_, _, _]) (L' := _) h; have h := Ws.drops h (fun _ hm => List.mem_append_right [_] hm); exact h) ?_
          refine WS.e rfl ?_
          refine WL.store 2 (.inl rfl) rfl rfl rfl sz104 rfl rfl rfl ?_
          refine WL.nil ?_
          refine WE.toS ?_
          refine WS.nil ?_
          exact WE.meetE ((b39, b43, b12), K41, r41.1, r41.2) hk41 (sc rfl (sc rfl (sc rfl (sc rfl (sc rfl (sc rfl sn)))))) (fun _ h => by
            have h := h.fronti 6 rfl
            have h := h.fronti 6 rfl
            have h := h.fronti 6 rfl
            have h := h.fronti 6 rfl
            have h := h.fronti 5 rfl
            have h := h.fronti 5 rfl
            have h := h.fronti 6 rfl
            have h := Ws.drops h (Vs' := [K41, H]) (by simp)
            exact h)
        intro q hK
        refine WC.seq ?_
        refine WC.drawU (noRes [.cell 8 53, .cell 9 3, .cell 10 26]) [] [7] (.q true 0 (.q false 1 (.q true 2 (.e 3 (.q false 4 (.q false 5 (.q false 6 .nil))) .stop)))) mixed (by kernel_rfl) (fun _ _ _ _ _ hd h => bodyD_put (fn := Try.f24) [.cell 8 53, .cell 9 3, .cell 10 26] rfl hd h) ?_
        refine WU.q rfl (.inl rfl) rfl (fun _ h => h) (yl_ldk 0 rfl rfl rfl na104) ?_
        refine WU.q rfl (.inl rfl) rfl (fun _ h => h) (yl_fa fo24_1 rfl) ?_
        refine WU.q rfl (.inl rfl) rfl (fun _ h => h) (yl_ldk 6 rfl rfl rfl na3) ?_
        refine WU.e rfl (fun _ h => h) ?_ WU.stop
        refine WL.make (.inl rfl) rfl el50 rfl rfl (by omega) (by omega) (by omega) (by omega) fun b47 => ?_
        refine WL.reblk 0 (.cells ((List.replicate data.toNat (0 : Int)).flatMap iv).toArray 3 (0, 0)) rfl (by rw [made_iv]) ?_
        refine WL.nil ?_
        refine WE.toU ?_
        refine WU.q rfl (.inl rfl) rfl (fun _ h => by have h := Ws.drop (L := [_]) (L' := _) h; exact h) (yl_nil rfl) ?_
        refine WU.q rfl (.inl rfl) rfl (fun _ h => by have h := Ws.drop (L := [_]) (L' := _) h; exact h) (yl_fa fo108_6 rfl) ?_
        refine WU.q rfl (.inl rfl) rfl (fun _ h => by have h := Ws.drop (L := [_]) (L' := _) h; exact h) (yl_fa fo53_2 rfl) ?_
        refine WU.nil (fun _ h => by have h := Ws.drop (L := [_]) (L' := _) h; exact h) ?_
        refine WS.e rfl ?_
        refine WL.store 2 (.inl rfl) rfl rfl rfl sz50 rfl rfl rfl ?_
        refine WL.nil ?_
        refine WE.toS ?_
        refine WS.nil ?_
        refine WE.then_normal ?_
        refine WC.seq ?_
        refine WC.region ?_
        refine WL.val (.inl rfl) rfl (yl_func rfl) ?_
        refine WL.defer (.inl rfl) rfl ?_
        refine WL.nil ?_
        refine WE.then_normal ?_
        refine WC.block ?_
        refine WC.loopK (ι := MSt) (fun s => []) [(3, _), (4, _), (8, _), (9, _), (10, _), (12, _)] (fun s => Ws w [] (MSt.own q.1.2.1 s ++ [blk q.1.2.2 (.cells #[.pointer (some ⟨q.1.2.1, 0, none⟩)] 104 (0, 0)), blk b10 (.cells (Value.cells (.int .i64 0)) 26 (0, 0)), blk b9 (.cells (Value.cells (.int .i64 0)) 3 (0, 0)), blk b8 (.cells (Value.cells (.agg #[.int .i64 0, .slice none 0 0, .slice none 0 0, .int .i64 0])) 53 (0, 0)), blk b4 (.cells (Value.agg #[.slice a code.length c, .int .i64 data]).cells 24 (0, 0))]) [q.2.1, H]) (fun s => s.good q.2.1 ∧ 0 ≤ s.steps ∧ s.steps ≤ steps ∧ runK code steps ((steps - s.steps).toNat + 1) s.pu = runK code steps (steps.toNat + 1) (startM ticks inp data)) (fun s => (steps - s.steps).toNat) ({ at_ := 0, limit := ticks, steps := 0, stack := [], frames := [⟨none, 0, [], 0⟩], inp := inp, out := [], data := List.replicate data.toNat 0, ticks := 0, sa := none, sc := 0, fa := some ⟨q.1.1, 0, none⟩, fc := 1, ia := q.2.2.1, ic := q.2.2.2, oa := none, oc := 0, da := some ⟨b47, 0, none⟩, dc := data.toNat } : MSt) ⟨⟨hK, by simp, by simp, by simp, by simp; omega⟩, Int.le_refl _, hts.2.2.1, by simp; rfl⟩ (sc rfl (sc rfl (sc rfl (sc rfl (sc rfl (sc rfl sn)))))) (fun _ h => by
          have h := h.osT_blk (f := iv) (c := data.toNat) 0 rfl iv_len (by simp) (by unfold maxLen; omega)
          have h := h.osT_blk (f := MFr.cells) (xs := [⟨none, 0, [], 0⟩]) (c := 1) 3 rfl MFr.cells_len rfl (by decide)
          have h := h.reL 2 rfl (show _ = blk q.1.2.1 (MSt.obj ({ at_ := 0, limit := ticks, steps := 0, stack := [], frames := [⟨none, 0, [], 0⟩], inp := inp, out := [], data := List.replicate data.toNat 0, ticks := 0, sa := none, sc := 0, fa := some ⟨q.1.1, 0, none⟩, fc := 1, ia := q.2.2.1, ic := q.2.2.2, oa := none, oc := 0, da := some ⟨b47, 0, none⟩, dc := data.toNat } : MSt)) by simp [MSt.obj, setIn, vcells])
          have h := h.osl_nil 3 1
          have h := h.osl_nil 3 1
          have h := h.fam_nil
          have h := h.fam_nilcons 0 rfl 3 1
          have h := h.fronti 0 rfl
          have h := h.fronti 3 rfl
          have h := h.fronti 2 rfl
          have h := h.fronti 6 rfl
          have h := h.fronti 4 rfl
          have h := h.fronti 6 rfl
          exact h) ?_
        intro s ⟨hg0, hst0, hst1, hrun⟩
        refine WC.block ?_
        refine WC.seq ?_
        refine WC.region ?_
        refine WL.val (.inl rfl) rfl (yl_ldk 6 rfl rfl rfl na104) ?_
        refine WL.val (.inl rfl) rfl (yl_nil rfl) ?_
        refine WL.val (.inl rfl) rfl (yl_fa fo108_2 rfl) ?_
        refine WL.val (.inl rfl) rfl (yl_ldk 0 rfl rfl rfl na3) ?_
        refine WL.val (.inl rfl) rfl (yl_move rfl) ?_
        refine WL.val (.inl rfl) rfl (yl_eq rfl rfl) ?_
        refine WL.callwx (ι := Unit) (κ := Unit) [] _ (.inl rfl) rfl en64 rfl rfl (fun _ => .tuple #[]) (fun _ => []) (fun _ => (s.steps == steps) = false) (fun _ => ovr 7) (fun _ => []) (fun _ => (s.steps == steps) = true) ([]) (by simp) (fun w hw => (stop_any _ 7 w).mono fun e w' h => by
            rcases h with ⟨_, h1, h2, h3⟩ | ⟨_, h1, h2, h3⟩
            · exact .inl ⟨(), h1, h2, hw.ext h3⟩
            · exact .inr ⟨(), h1, h2, hw.ext h3⟩) ?_ ?_
        ·
          intro _ hn58
          refine WE.then_panic ?_
          refine WE.block_panic ?_
          refine WE.then_panic ?_
          refine WE.block_panic ?_
          refine WE.front 0 rfl ?_
          refine WE.front 7 rfl ?_
          refine WE.front 8 rfl ?_
          refine WE.front 9 rfl ?_
          refine WE.front 9 rfl ?_
          refine WE.panD en63 (closW [_, _, _, _, _] _ _ rfl (fun w hw => run1_pan q.1.2.2 b8 b9 b10 q.1.2.1 s 7 _ _ _ _ _ _ w hw)) (rs_3 rfl (rv_agg 1 rfl rfl ag53 rfl) (rv_one 2 rfl rfl rfl na3) (rv_one 3 rfl rfl rfl na26)) fun w' hw => ?_
          have hit : iterM code steps s.pu = .ov 7 s.pu := by unfold iterM; rw [if_pos (show (s.pu.steps == steps) = true from hn58)]
          have hM : (machR code data inp ticks steps) = (⟨7, s.out, s.data, s.ticks⟩, s.steps) := by
            unfold machR
            rw [if_pos hE, ← hrun, run_ov _ hit]
            rfl
          rw [hM, hE]
          exact ⟨((s.oa, s.oc), (s.da, s.dc)), rfl, hw.fr, hw.slT 7 rfl iv_len rdI_of, hw.slT 8 rfl iv_len rdI_of⟩
        intro _ hn58
        refine WL.nil ?_
        refine WE.then_normal ?_
        refine WC.seq ?_
        refine WC.region ?_
        refine WL.val (.inl rfl) rfl (yl_ldk 6 rfl rfl rfl na104) ?_
        refine WL.val (.inl rfl) rfl (yl_nil rfl) ?_
        refine WL.val (.inl rfl) rfl (yl_fa fo108_2 rfl) ?_
        refine WL.val (.inl rfl) rfl (yl_ldk 0 rfl rfl rfl na3) ?_
        refine WL.val (.inl rfl) rfl (yl_addw rfl rfl) ?_
        refine WL.val (.inl rfl) rfl (yl_nil rfl) ?_
        refine WL.val (.inl rfl) rfl (yl_fa fo108_2 rfl) ?_
        refine WL.store 0 (.inl rfl) rfl rfl rfl sz3 rfl rfl rfl ?_
        refine WL.reblk 0 (MSt.obj (MSt.tk s)) rfl rfl ?_
        refine WL.nil ?_
        refine WE.then_normal ?_
        refine WC.seq ?_
        rcases Int.lt_or_le s.at_ 0 with hA | hA
        ·
          skip
          refine WC.drawU (noRes [.cell 8 53, .cell 9 3, .cell 10 26]) [] [] (.q true 0 (.q false 1 (.q false 2 (.q true 3 (.q false 4 (.q false 5 (.q false 6 (.q false 7 (.q false 8 (.q false 9 (.q false 10 (.q false 11 (.q false 12 (.q false 13 (.q false 14 (.e 15 .nil .stop)))))))))))))))) mixed (by kernel_rfl) (fun _ _ _ _ _ hd h => bodyD_put (fn := Try.f24) [.cell 8 53, .cell 9 3, .cell 10 26] rfl hd h) ?_
          refine WU.q rfl (.inl rfl) rfl (fun _ h => h) (yl_ldk 6 rfl rfl rfl na104) ?_
          refine WU.q rfl (.inl rfl) rfl (fun _ h => h) (yl_nil rfl) ?_
          refine WU.q rfl (.inl rfl) rfl (fun _ h => h) (yl_fa fo108_0 rfl) ?_
          refine WU.q rfl (.inl rfl) rfl (fun _ h => h) (yl_ldk 0 rfl rfl rfl na3) ?_
          refine WU.q rfl (.inl rfl) rfl (fun _ h => h) (yl_ltT rfl rfl hA) ?_
          refine WU.q rfl (.inl rfl) rfl (fun _ h => h) (yl_move rfl) ?_
          refine WU.skip rfl rfl rfl rfl rfl rfl (fun _ h => h) ?_
          refine WU.skip rfl rfl rfl rfl rfl rfl (fun _ h => h) ?_
          refine WU.skip rfl rfl rfl rfl rfl rfl (fun _ h => h) ?_
          refine WU.skip rfl rfl rfl rfl rfl rfl (fun _ h => h) ?_
          refine WU.skip rfl rfl rfl rfl rfl rfl (fun _ h => h) ?_
          refine WU.skip rfl rfl rfl rfl rfl rfl (fun _ h => h) ?_
          refine WU.skip rfl rfl rfl rfl rfl rfl (fun _ h => h) ?_
          refine WU.skip rfl rfl rfl rfl rfl rfl (fun _ h => h) ?_
          refine WU.q rfl (.inl rfl) rfl (fun _ h => h) (yl_pick rfl rfl rfl) ?_
          refine WU.e rfl (fun _ h => h) ?_ WU.stop
          refine WL.callwx (ι := Unit) (κ := Unit) [] _ (.inl rfl) rfl en64 rfl rfl (fun _ => .tuple #[]) (fun _ => []) (fun _ => (true) = false) (fun _ => ovr 6) (fun _ => []) (fun _ => (true) = true) ([]) (by simp) (fun w hw => (stop_any _ 6 w).mono fun e w' h => by
              rcases h with ⟨_, h1, h2, h3⟩ | ⟨_, h1, h2, h3⟩
              · exact .inl ⟨(), h1, h2, hw.ext h3⟩
              · exact .inr ⟨(), h1, h2, hw.ext h3⟩) ?_ ?_
          ·
            intro _ hn81
            refine WE.then_panic ?_
            refine WE.then_panic ?_
            refine WE.block_panic ?_
            refine WE.then_panic ?_
            refine WE.block_panic ?_
            refine WE.front 0 rfl ?_
            refine WE.front 7 rfl ?_
            refine WE.front 8 rfl ?_
            refine WE.front 9 rfl ?_
            refine WE.front 9 rfl ?_
            refine WE.panD en63 (closW [_, _, _, _, _] _ _ rfl (fun w hw => run1_pan q.1.2.2 b8 b9 b10 q.1.2.1 (MSt.tk s) 6 _ _ _ _ _ _ w hw)) (rs_3 rfl (rv_agg 1 rfl rfl ag53 rfl) (rv_one 2 rfl rfl rfl na3) (rv_one 3 rfl rfl rfl na26)) fun w' hw => ?_
            have hit : iterM code steps s.pu = .ov 6 (MSt.tk s).pu := by
              unfold iterM
              rw [if_neg (show ¬ (s.pu.steps == steps) = true by rw [show s.pu.steps = s.steps from rfl, hn58]; simp), if_pos (show outsideB s.pu.at_ code.length = true by show outsideB s.at_ code.length = true; unfold outsideB; simp [hA])]
              rfl
            have hM : (machR code data inp ticks steps) = (⟨6, (MSt.tk s).out, (MSt.tk s).data, (MSt.tk s).ticks⟩, (MSt.tk s).steps) := by
              unfold machR
              rw [if_pos hE, ← hrun, run_ov _ hit]
              rfl
            rw [hM, hE]
            exact ⟨(((MSt.tk s).oa, (MSt.tk s).oc), ((MSt.tk s).da, (MSt.tk s).dc)), rfl, hw.fr, hw.slT 7 rfl iv_len rdI_of, hw.slT 8 rfl iv_len rdI_of⟩
          intro _ hn81
          cases hn81
        ·
          skip
          refine WC.drawU (noRes [.cell 8 53, .cell 9 3, .cell 10 26]) [] [] (.q true 0 (.q false 1 (.q false 2 (.q true 3 (.q false 4 (.q false 5 (.q true 6 (.q false 7 (.q false 8 (.q true 9 (.q false 10 (.q true 11 (.q false 12 (.q false 13 (.q false 14 (.e 15 .nil .stop)))))))))))))))) mixed (by kernel_rfl) (fun _ _ _ _ _ hd h => bodyD_put (fn := Try.f24) [.cell 8 53, .cell 9 3, .cell 10 26] rfl hd h) ?_
          refine WU.q rfl (.inl rfl) rfl (fun _ h => h) (yl_ldk 6 rfl rfl rfl na104) ?_
          refine WU.q rfl (.inl rfl) rfl (fun _ h => h) (yl_nil rfl) ?_
          refine WU.q rfl (.inl rfl) rfl (fun _ h => h) (yl_fa fo108_0 rfl) ?_
          refine WU.q rfl (.inl rfl) rfl (fun _ h => h) (yl_ldk 0 rfl rfl rfl na3) ?_
          refine WU.q rfl (.inl rfl) rfl (fun _ h => h) (yl_ltF rfl rfl hA) ?_
          refine WU.q rfl (.inl rfl) rfl (fun _ h => h) (yl_move rfl) ?_
          refine WU.q rfl (.inr ⟨_, _, _, rfl, rfl, rfl⟩) rfl (fun _ h => h) (yl_ldk 6 rfl rfl rfl na104) ?_
          refine WU.q rfl (.inr ⟨_, _, _, rfl, rfl, rfl⟩) rfl (fun _ h => h) (yl_nil rfl) ?_
          refine WU.q rfl (.inr ⟨_, _, _, rfl, rfl, rfl⟩) rfl (fun _ h => h) (yl_fa fo108_0 rfl) ?_
          refine WU.q rfl (.inr ⟨_, _, _, rfl, rfl, rfl⟩) rfl (fun _ h => h) (yl_ldk 0 rfl rfl rfl na3) ?_
          refine WU.q rfl (.inr ⟨_, _, _, rfl, rfl, rfl⟩) rfl (fun _ h => h) (yl_fa fo24_0 rfl) ?_
          refine WU.q rfl (.inr ⟨_, _, _, rfl, rfl, rfl⟩) rfl (fun _ h => h) (yl_ldk 10 rfl rfl rfl na22) ?_
          refine WU.q rfl (.inr ⟨_, _, _, rfl, rfl, rfl⟩) rfl (fun _ h => h) (yl_len es22 rfl) ?_
          refine WU.q rfl (.inr ⟨_, _, _, rfl, rfl, rfl⟩) rfl (fun _ h => h) (yl_ge rfl rfl) ?_
          refine WU.q rfl (.inl rfl) rfl (fun _ h => h) (yl_pick rfl rfl rfl) ?_
          refine WU.e rfl (fun _ h => h) ?_ WU.stop
          refine WL.callwx (ι := Unit) (κ := Unit) [] _ (.inl rfl) rfl en64 rfl rfl (fun _ => .tuple #[]) (fun _ => []) (fun _ => (decide ((code.length : Int) ≤ s.at_)) = false) (fun _ => ovr 6) (fun _ => []) (fun _ => (decide ((code.length : Int) ≤ s.at_)) = true) ([]) (by simp) (fun w hw => (stop_any _ 6 w).mono fun e w' h => by
              rcases h with ⟨_, h1, h2, h3⟩ | ⟨_, h1, h2, h3⟩
              · exact .inl ⟨(), h1, h2, hw.ext h3⟩
              · exact .inr ⟨(), h1, h2, hw.ext h3⟩) ?_ ?_
          ·
            intro _ hn81
            refine WE.then_panic ?_
            refine WE.then_panic ?_
            refine WE.block_panic ?_
            refine WE.then_panic ?_
            refine WE.block_panic ?_
            refine WE.front 0 rfl ?_
            refine WE.front 7 rfl ?_
            refine WE.front 8 rfl ?_
            refine WE.front 9 rfl ?_
            refine WE.front 9 rfl ?_
            refine WE.panD en63 (closW [_, _, _, _, _] _ _ rfl (fun w hw => run1_pan q.1.2.2 b8 b9 b10 q.1.2.1 (MSt.tk s) 6 _ _ _ _ _ _ w hw)) (rs_3 rfl (rv_agg 1 rfl rfl ag53 rfl) (rv_one 2 rfl rfl rfl na3) (rv_one 3 rfl rfl rfl na26)) fun w' hw => ?_
            have hit : iterM code steps s.pu = .ov 6 (MSt.tk s).pu := by
              unfold iterM
              rw [if_neg (show ¬ (s.pu.steps == steps) = true by rw [show s.pu.steps = s.steps from rfl, hn58]; simp), if_pos (show outsideB s.pu.at_ code.length = true by show outsideB s.at_ code.length = true; unfold outsideB; simp; exact Or.inr (by simpa using hn81))]
              rfl
            have hM : (machR code data inp ticks steps) = (⟨6, (MSt.tk s).out, (MSt.tk s).data, (MSt.tk s).ticks⟩, (MSt.tk s).steps) := by
              unfold machR
              rw [if_pos hE, ← hrun, run_ov _ hit]
              rfl
            rw [hM, hE]
            exact ⟨(((MSt.tk s).oa, (MSt.tk s).oc), ((MSt.tk s).da, (MSt.tk s).dc)), rfl, hw.fr, hw.slT 7 rfl iv_len rdI_of, hw.slT 8 rfl iv_len rdI_of⟩
          intro _ hn81
          have hob : outsideB s.at_ code.length = false := by unfold outsideB; rw [hn81]; simp; omega
          refine WL.nil ?_
          refine WE.toU ?_
          refine WU.nil (fun _ h => h) ?_
          refine WS.nil ?_
          refine WE.then_normal ?_
          obtain ⟨x, hx⟩ : ∃ x, code[s.at_.toNat]? = some x := ⟨_, List.getElem?_eq_getElem (not_outside hob).2⟩
          obtain ⟨pb, po, ha, hrow⟩ := hm.elt _ x hx
          have hrow : RdC H pb (po + s.at_.toNat * 3) x.cells := hrow
          have hlt := (not_outside hob).2
          refine WC.drawU (noRes [.cell 8 53, .cell 9 3, .cell 10 26]) [] [9] (.q true 0 (.q false 1 (.q true 2 (.q true 3 (.q false 4 (.q false 5 (.q true 6 (.q false 7 (.q true 8 .nil))))))))) mixed (by kernel_rfl) (fun _ _ _ _ _ hd h => bodyD_put (fn := Try.f24) [.cell 8 53, .cell 9 3, .cell 10 26] rfl hd h) ?_
          refine WU.q rfl (.inl rfl) rfl (fun _ h => h) (yl_ldk 6 rfl rfl rfl na104) ?_
          refine WU.q rfl (.inl rfl) rfl (fun _ h => h) (yl_fa fo24_0 rfl) ?_
          refine WU.q rfl (.inl rfl) rfl (fun _ h => h) (yl_ldk 10 rfl rfl rfl na22) ?_
          refine WU.q rfl (.inl rfl) rfl (fun _ h => h) (yl_ldk 6 rfl rfl rfl na104) ?_
          refine WU.q rfl (.inl rfl) rfl (fun _ h => h) (yl_nil rfl) ?_
          refine WU.q rfl (.inl rfl) rfl (fun _ h => h) (yl_fa fo108_0 rfl) ?_
          refine WU.q rfl (.inl rfl) rfl (fun _ h => h) (yl_ldk 0 rfl rfl rfl na3) ?_
          refine WU.q rfl (.inl rfl) rfl (fun _ h => h) (yl_iai es22 rfl rfl ha hA (by show s.at_ < (code.length : Int); omega)) ?_
          refine WU.q rfl (.inl rfl) rfl (fun _ h => h) (yl_lda 1 ag65 rfl rfl rfl (hrow)) ?_
          refine WU.nil (fun _ h => h) ?_
          refine WS.e rfl ?_
          refine WL.front 5 rfl ?_
          refine WL.front 5 rfl ?_
          refine WL.front 5 rfl ?_
          refine WL.front 5 rfl ?_
          refine WL.front 5 rfl ?_
          refine WL.front 5 rfl ?_
          refine WL.callwx (ι := Unit × MSt) (κ := Int × MSt) [_, _, _, _, _, _] _ (.inl rfl) rfl en65 rfl rfl (fun r => .tuple #[]) (fun r => (MSt.own q.1.2.1 r.2)) (fun r => stepM x (MSt.tk s).pu = .ok r.1 r.2.pu ∧ r.2.good q.2.1) (fun r => ovr r.1) (fun r => (MSt.own q.1.2.1 r.2)) (fun r => stepM x (MSt.tk s).pu = .ov r.1 r.2.pu) ([q.2.1]) (by simp) (fun w hw => step_any q.1.2.1 (MSt.tk s) q.2.1 x w hg0.tk hw) ?_ ?_
          ·
            intro r91 hr91
            refine WE.then_panic ?_
            refine WE.block_panic ?_
            refine WE.then_panic ?_
            refine WE.block_panic ?_
            refine WE.front 0 rfl ?_
            refine WE.front 7 rfl ?_
            refine WE.front 8 rfl ?_
            refine WE.front 9 rfl ?_
            refine WE.front 9 rfl ?_
            refine WE.panD en63 (closW [_, _, _, _, _] _ _ rfl (fun w hw => run1_pan q.1.2.2 b8 b9 b10 q.1.2.1 r91.2 r91.1 _ _ _ _ _ _ w hw)) (rs_3 rfl (rv_agg 1 rfl rfl ag53 rfl) (rv_one 2 rfl rfl rfl na3) (rv_one 3 rfl rfl rfl na26)) fun w' hw => ?_
            have hit : iterM code steps s.pu = .ov r91.1 r91.2.pu := by
              unfold iterM
              rw [if_neg (show ¬ (s.pu.steps == steps) = true by rw [show s.pu.steps = s.steps from rfl, hn58]; simp), if_neg (show ¬ outsideB s.pu.at_ code.length = true by show ¬ outsideB s.at_ code.length = true; rw [hob]; simp), show code[s.pu.at_.toNat]? = some x from hx]
              exact hr91
            have hM : (machR code data inp ticks steps) = (⟨r91.1, r91.2.out, r91.2.data, r91.2.ticks⟩, r91.2.steps) := by
              unfold machR
              rw [if_pos hE, ← hrun, run_ov _ hit]
              rfl
            rw [hM, hE]
            exact ⟨((r91.2.oa, r91.2.oc), (r91.2.da, r91.2.dc)), rfl, hw.fr, hw.slT 7 rfl iv_len rdI_of, hw.slT 8 rfl iv_len rdI_of⟩
          intro r91 ⟨hr91, hg91⟩
          refine WL.nil ?_
          refine WE.toS ?_
          refine WS.nil ?_
          refine WE.block_normal ?_
          have hit : iterM code steps s.pu = .ok () r91.2.pu := by
            unfold iterM
            rw [if_neg (show ¬ (s.pu.steps == steps) = true by rw [show s.pu.steps = s.steps from rfl, hn58]; simp), if_neg (show ¬ outsideB s.pu.at_ code.length = true by show ¬ outsideB s.at_ code.length = true; rw [hob]; simp), show code[s.pu.at_.toNat]? = some x from hx]
            exact hr91
          have hst : r91.2.steps = s.steps + 1 ∧ s.steps < steps := iter_steps (m := s.pu) (m' := r91.2.pu) hts.2.2.2 hst0 hst1 hit
          exact WE.again r91.2 (by omega) ⟨hg91, by omega, by omega, by
              rw [← hrun, run_ok _ hit, show (steps - s.steps).toNat = (steps - r91.2.steps).toNat + 1 by omega]⟩ (sc rfl (sc rfl (sc rfl (sc rfl (sc rfl (sc rfl sn)))))) (fun _ h => h)

end Go.Proofs.Ytagoencpeflmlaa
