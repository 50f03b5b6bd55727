/- Walks of the functions of this claim, and plain laws on what they compute; each theorem tells its own conditions. -/
import Derived.Test.YtagoencpeflmlaaBwF1
namespace Go.Proofs.Ytagoencpeflmlaa
open Go.Bw
set_option linter.unusedVariables false
set_option linter.unusedSimpArgs false

def byteOf (n : Int) : UInt8 := UInt8.ofNat (n % 256).toNat
theorem wrap_u8 (n : Int) : IntKind.u8.wrap n = ((byteOf n).toNat : Int) := by
  unfold byteOf IntKind.wrap
  simp [IntKind.signed, IntKind.bits]
  omega
def num8 (n : Int) : List UInt8 := [byteOf (n.fdiv (2 ^ 56)), byteOf (n.fdiv (2 ^ 48)), byteOf (n.fdiv (2 ^ 40)), byteOf (n.fdiv (2 ^ 32)), byteOf (n.fdiv (2 ^ 24)), byteOf (n.fdiv (2 ^ 16)), byteOf (n.fdiv (2 ^ 8)), byteOf n]
def textB (s : List UInt8) : List UInt8 := byteOf s.length :: s
theorem noEsc : ∀ (u : Value) (w : World), (callFunc 103 #[u]).run Try.prog w = .ok (.value u) w := same_of Try.func103 (by kernel_rfl) (by kernel_rfl) (by kernel_rfl) (by kernel_rfl)
theorem up80 : Try.prog.underlying 80 = some (.pointer 83) := by kernel_rfl
theorem sz83 : sizeP Try.prog 83 = some 2 := by kernel_rfl
theorem uunsafe : Try.prog.underlying 147 = some .unsafePointer := by kernel_rfl
theorem liesPen : liesAt Try.prog Try.prog.depth 85 (2 / Try.prog.cellsOf 85) 0 83 1 = true := by kernel_rfl
theorem fo83_0 : fieldOff Try.prog 83 0 = some 0 := by kernel_rfl
theorem na80 : nonAgg Try.prog 80 = true := by kernel_rfl
theorem sz80 : sizeP Try.prog 80 = some 1 := by kernel_rfl
theorem en101 : Enters Try.prog 101 := enters_of Try.func101 (by kernel_rfl) rfl
theorem fo83_1 : fieldOff Try.prog 83 1 = some 1 := by kernel_rfl
theorem na81 : nonAgg Try.prog 81 = true := by kernel_rfl
theorem el81 : EltOk Try.prog 81 5 (.int .u8 0) 1 1 := eltOk_of (by kernel_rfl)
theorem sz81 : sizeP Try.prog 81 = some 1 := by kernel_rfl
theorem fo85_0 : fieldOff Try.prog 85 0 = some 0 := by kernel_rfl
theorem ui3 : Try.prog.underlying 3 = some (.int .i64) := by kernel_rfl
theorem ui5 : Try.prog.underlying 5 = some (.int .u8) := by kernel_rfl
theorem en78 : Enters Try.prog 78 := enters_of Try.func78 (by kernel_rfl) rfl
theorem en46 : Enters Try.prog 46 := enters_of Try.func46 (by kernel_rfl) rfl
theorem en77 : Enters Try.prog 77 := enters_of Try.func77 (by kernel_rfl) rfl
theorem mixed : Try.prog.follows .mixedOrders = true := by kernel_rfl
theorem es81 : elemSz Try.prog 81 = some 1 := by kernel_rfl
theorem up129 : Try.prog.underlying 129 = some (.pointer 5) := by kernel_rfl
theorem c1_5 : Try.prog.cellsOf 5 = 1 := by kernel_rfl

theorem copyCheck_any (bp : Nat) (q : Option Addr) (v : Value) (w : World) (hq : q = none ∨ q = some ⟨bp, 0, none⟩) (hw : Ws w [bp] [blk bp (.cells #[.pointer (q), v] 85 (0, 0))] [] w) :
    Calls Try.prog 101 #[.pointer (some ⟨bp, 0, none⟩)] w fun e w' => e = .returned (.tuple #[]) ∧ Ws w [bp] [blk bp (.cells #[.pointer (some ⟨bp, 0, none⟩), v] 85 (0, 0))] [] w' := by
  refine enter Try.func101 rfl 20 rfl rfl ?_
  refine WC.world (W' := Ws w [bp] [blk bp (.cells #[.pointer (q), v] 85 (0, 0))] []) (fun _ e => by subst e; exact hw) ?_
  refine WC.seq ?_
  refine WC.region ?_
  refine WL.val (.inl rfl) rfl (yl_move rfl) ?_
  refine WL.val (.inl rfl) rfl (yl_nil rfl) ?_
  refine WL.val (.inl rfl) rfl (yl_fa fo83_0 rfl) ?_
  refine WL.val (.inl rfl) rfl (yl_ldk 0 rfl rfl rfl na80) ?_
  refine WL.val (.inl rfl) rfl (yl_eqpn up80 rfl) ?_
  refine WL.nil ?_
  refine WE.then_normal ?_
  refine WC.cond rfl (fun hc0 => ?_) (fun hc0 => ?_)
  ·
    obtain rfl : q = none := by cases q with | none => rfl | some _ => simp at hc0
    refine WC.region ?_
    refine WL.val (.inl rfl) rfl (yl_move rfl) ?_
    refine WL.val (.inl rfl) rfl (yl_move rfl) ?_
    refine WL.val (.inl rfl) rfl (yl_cvp 0 up80 uunsafe sz83 rfl rfl rfl) ?_
    refine WL.val (.inl rfl) rfl (yl_same noEsc rfl) ?_
    refine WL.val (.inl rfl) rfl (yl_cvq 0 uunsafe up80 sz83 rfl (n := 2) rfl liesPen rfl) ?_
    refine WL.val (.inl rfl) rfl (yl_nil rfl) ?_
    refine WL.val (.inl rfl) rfl (yl_fa fo83_0 rfl) ?_
    refine WL.store 0 (.inl rfl) rfl rfl rfl sz80 rfl rfl rfl ?_
    refine WL.nil ?_
    refine WE.end0 rfl fun w' hw => ?_
    exact ⟨rfl, hw⟩
  ·
    obtain rfl : q = some ⟨bp, 0, none⟩ := by
      rcases hq with rfl | h
      · simp at hc0
      · exact h
    refine WC.seq ?_
    refine WC.region ?_
    refine WL.val (.inl rfl) rfl (yl_move rfl) ?_
    refine WL.val (.inl rfl) rfl (yl_nil rfl) ?_
    refine WL.val (.inl rfl) rfl (yl_fa fo83_0 rfl) ?_
    refine WL.val (.inl rfl) rfl (yl_ldk 0 rfl rfl rfl na80) ?_
    refine WL.val (.inl rfl) rfl (yl_move rfl) ?_
    refine WL.val (.inl rfl) rfl (yl_neps up80 sz83 rfl rfl) ?_
    refine WL.nil ?_
    refine WE.then_normal ?_
    refine WC.condf rfl ?_
    refine WC.skip ?_
    refine WE.end0 rfl fun w' hw => ?_
    exact ⟨rfl, hw⟩

theorem writeByte_any (bp : Nat) (q : Option Addr) (v : Value) (bs : List UInt8) (b : UInt8) (w : World) (hq : q = none ∨ q = some ⟨bp, 0, none⟩) (hb : bs.length + 1 ≤ 1099511627776) (hw : Ws w ([blk bp (.cells #[.pointer (q), v] 85 (0, 0)), osl 5 1 v (bs).length ((bs).map byv)].flatMap Asr.ids) [blk bp (.cells #[.pointer (q), v] 85 (0, 0)), osl 5 1 v (bs).length ((bs).map byv)] [] w) :
    Calls Try.prog 78 #[.pointer (some ⟨bp, 0, none⟩), .int .u8 (b.toNat : Int)] w fun e w' => ∃ v' : Value, e = .returned (.nilIface) ∧ True ∧ Ws w ([blk bp (.cells #[.pointer (q), v] 85 (0, 0)), osl 5 1 v (bs).length ((bs).map byv)].flatMap Asr.ids) [blk bp (.cells #[.pointer (some ⟨bp, 0, none⟩), v'] 85 (0, 0)), osl 5 1 v' (bs ++ [b]).length ((bs ++ [b]).map byv)] [] w' := by
  refine enter Try.func78 rfl 17 rfl rfl ?_
  refine WC.world (W' := Ws w ([blk bp (.cells #[.pointer (q), v] 85 (0, 0)), osl 5 1 v (bs).length ((bs).map byv)].flatMap Asr.ids) [blk bp (.cells #[.pointer (q), v] 85 (0, 0)), osl 5 1 v (bs).length ((bs).map byv)] []) (fun _ e => by subst e; exact hw) ?_
  refine WC.seq ?_
  refine WC.region ?_
  refine WL.val (.inl rfl) rfl (yl_assign rfl) ?_
  refine WL.nil ?_
  refine WE.then_normal ?_
  refine WC.seq ?_
  refine WC.region ?_
  refine WL.val (.inl rfl) rfl (yl_move rfl) ?_
  refine WL.front 0 rfl ?_
  refine WL.callw0 [_] _ [blk bp (.cells #[.pointer (some ⟨bp, 0, none⟩), v] 85 (0, 0))] (.inl rfl) rfl en101 rfl rfl [] (by simp) (fun w hw => copyCheck_any bp q v w hq hw) ?_
  refine WL.nil ?_
  refine WE.then_normal ?_
  refine WC.seq ?_
  refine WC.region ?_
  refine WL.val (.inl rfl) rfl (yl_move rfl) ?_
  refine WL.val (.inl rfl) rfl (yl_move rfl) ?_
  refine WL.val (.inl rfl) rfl (yl_nil rfl) ?_
  refine WL.val (.inl rfl) rfl (yl_fa fo83_1 rfl) ?_
  refine WL.val (.inl rfl) rfl (yl_ldk 0 rfl rfl rfl na81) ?_
  refine WL.val (.inl rfl) rfl (yl_move rfl) ?_
  refine WL.bsliceF (.inl rfl) rfl el81 rfl rfl rfl rfl fun b13 => ?_
  refine WL.append 2 (.inl rfl) rfl el81 rfl rfl rfl (news := [byv b]) rfl (fun w hw j u hu => blk_cells hw 0 rfl (k := j) hu) (fun u hu => by simp at hu; subst hu; rfl) (by unfold maxLen; omega) (by omega) (fun v14 hnil14 => ?_)
  refine WL.reosl 2 (bs ++ [b]).length ((bs ++ [b]).map byv) rfl (by simp) (by simp) ?_
  refine WL.slc 2 rfl fun a14 m14 c14 hv14 => ?_
  subst hv14
  refine WL.val (.inl rfl) rfl (yl_nil rfl) ?_
  refine WL.val (.inl rfl) rfl (yl_fa fo83_1 rfl) ?_
  refine WL.store 1 (.inl rfl) rfl rfl rfl sz81 rfl rfl rfl ?_
  refine WL.nil ?_
  refine WE.then_normal ?_
  refine WC.seq ?_
  refine WC.region ?_
  refine WL.val (.inl rfl) rfl (yl_assign rfl) ?_
  refine WL.nil ?_
  refine WE.then_normal ?_
  refine WC.ret ?_
  refine WE.ret1 rfl rfl fun w' hw => ?_
  exact ⟨_, rfl, trivial, Ws.drop (L := [_]) hw⟩

theorem writeString_any (bp : Nat) (q : Option Addr) (v : Value) (bs : List UInt8) (s : List UInt8) (w : World) (hq : q = none ∨ q = some ⟨bp, 0, none⟩) (hb : bs.length + s.length ≤ 1099511627776) (hw : Ws w ([blk bp (.cells #[.pointer (q), v] 85 (0, 0)), osl 5 1 v (bs).length ((bs).map byv)].flatMap Asr.ids) [blk bp (.cells #[.pointer (q), v] 85 (0, 0)), osl 5 1 v (bs).length ((bs).map byv)] [] w) :
    Calls Try.prog 77 #[.pointer (some ⟨bp, 0, none⟩), st s] w fun e w' => ∃ v' : Value, e = .returned (.tuple #[.int .i64 s.length, .nilIface]) ∧ True ∧ Ws w ([blk bp (.cells #[.pointer (q), v] 85 (0, 0)), osl 5 1 v (bs).length ((bs).map byv)].flatMap Asr.ids) [blk bp (.cells #[.pointer (some ⟨bp, 0, none⟩), v'] 85 (0, 0)), osl 5 1 v' (bs ++ s).length ((bs ++ s).map byv)] [] w' := by
  refine enter Try.func77 rfl 19 rfl rfl ?_
  refine WC.world (W' := Ws w ([blk bp (.cells #[.pointer (q), v] 85 (0, 0)), osl 5 1 v (bs).length ((bs).map byv)].flatMap Asr.ids) [blk bp (.cells #[.pointer (q), v] 85 (0, 0)), osl 5 1 v (bs).length ((bs).map byv)] []) (fun _ e => by subst e; exact hw) ?_
  refine WC.seq ?_
  refine WC.region ?_
  refine WL.val (.inl rfl) rfl (yl_assign rfl) ?_
  refine WL.val (.inl rfl) rfl (yl_assign rfl) ?_
  refine WL.nil ?_
  refine WE.then_normal ?_
  refine WC.seq ?_
  refine WC.region ?_
  refine WL.val (.inl rfl) rfl (yl_move rfl) ?_
  refine WL.front 0 rfl ?_
  refine WL.callw0 [_] _ [blk bp (.cells #[.pointer (some ⟨bp, 0, none⟩), v] 85 (0, 0))] (.inl rfl) rfl en101 rfl rfl [] (by simp) (fun w hw => copyCheck_any bp q v w hq hw) ?_
  refine WL.nil ?_
  refine WE.then_normal ?_
  refine WC.seq ?_
  refine WC.region ?_
  refine WL.val (.inl rfl) rfl (yl_move rfl) ?_
  refine WL.val (.inl rfl) rfl (yl_move rfl) ?_
  refine WL.val (.inl rfl) rfl (yl_nil rfl) ?_
  refine WL.val (.inl rfl) rfl (yl_fa fo83_1 rfl) ?_
  refine WL.val (.inl rfl) rfl (yl_ldk 0 rfl rfl rfl na81) ?_
  refine WL.val (.inl rfl) rfl (yl_move rfl) ?_
  refine WL.appends 1 (.inl rfl) rfl el81 us9 rfl rfl rfl (by omega) (fun v14 hnil14 => ?_)
  refine WL.reosl 1 (bs ++ s).length ((bs ++ s).map byv) rfl (by simp) (by simp) ?_
  refine WL.slc 1 rfl fun a14 m14 c14 hv14 => ?_
  subst hv14
  refine WL.val (.inl rfl) rfl (yl_nil rfl) ?_
  refine WL.val (.inl rfl) rfl (yl_fa fo83_1 rfl) ?_
  refine WL.store 0 (.inl rfl) rfl rfl rfl sz81 rfl rfl rfl ?_
  refine WL.nil ?_
  refine WE.then_normal ?_
  refine WC.seq ?_
  refine WC.region ?_
  refine WL.val (.inl rfl) rfl (yl_move rfl) ?_
  refine WL.val (.inl rfl) rfl (yl_lens us9 rfl) ?_
  refine WL.val (.inl rfl) rfl (yl_assign rfl) ?_
  refine WL.val (.inl rfl) rfl (yl_assign rfl) ?_
  refine WL.nil ?_
  refine WE.then_normal ?_
  refine WC.ret ?_
  refine WE.ret2 rfl rfl rfl fun w' hw => ?_
  exact ⟨_, rfl, trivial, hw⟩

theorem penByte_any (bp : Nat) (q : Option Addr) (v : Value) (bs : List UInt8) (n : Int) (w : World) (hq : q = none ∨ q = some ⟨bp, 0, none⟩) (hb : bs.length + 1 ≤ 1099511627776) (hw : Ws w ([blk bp (.cells #[.pointer (q), v] 85 (0, 0)), osl 5 1 v (bs).length ((bs).map byv)].flatMap Asr.ids) [blk bp (.cells #[.pointer (q), v] 85 (0, 0)), osl 5 1 v (bs).length ((bs).map byv)] [] w) :
    Calls Try.prog 46 #[.pointer (some ⟨bp, 0, none⟩), .int .i64 n] w fun e w' => ∃ v' : Value, e = .returned (.tuple #[]) ∧ True ∧ Ws w ([blk bp (.cells #[.pointer (q), v] 85 (0, 0)), osl 5 1 v (bs).length ((bs).map byv)].flatMap Asr.ids) [blk bp (.cells #[.pointer (some ⟨bp, 0, none⟩), v'] 85 (0, 0)), osl 5 1 v' (bs ++ [byteOf n]).length ((bs ++ [byteOf n]).map byv)] [] w' := by
  refine enter Try.func46 rfl 10 rfl rfl ?_
  refine WC.world (W' := Ws w ([blk bp (.cells #[.pointer (q), v] 85 (0, 0)), osl 5 1 v (bs).length ((bs).map byv)].flatMap Asr.ids) [blk bp (.cells #[.pointer (q), v] 85 (0, 0)), osl 5 1 v (bs).length ((bs).map byv)] []) (fun _ e => by subst e; exact hw) ?_
  refine WC.region ?_
  refine WL.val (.inl rfl) rfl (yl_move rfl) ?_
  refine WL.val (.inl rfl) rfl (yl_nil rfl) ?_
  refine WL.val (.inl rfl) rfl (yl_fa fo85_0 rfl) ?_
  refine WL.val (.inl rfl) rfl (yl_move rfl) ?_
  refine WL.val (.inl rfl) rfl (yl_cvi ui3 ui5 rfl) ?_
  refine WL.front 1 rfl ?_
  refine WL.front 1 rfl ?_
  refine WL.callw (ι := Value) [_, _] _ (.inl rfl) rfl en78 rfl rfl (fun _ => .nilIface) (fun v' => [blk bp (.cells #[.pointer (some ⟨bp, 0, none⟩), v'] 85 (0, 0)), osl 5 1 v' (bs ++ [byteOf n]).length ((bs ++ [byteOf n]).map byv)]) (fun _ => True) [] (by simp) (fun w hw => by
      have := writeByte_any bp q v bs (byteOf n) w hq hb hw
      rw [← wrap_u8] at this
      exact this) ?_
  intro v9 _
  refine WL.nil ?_
  refine WE.end0 rfl fun w' hw => ?_
  exact ⟨_, rfl, trivial, hw⟩

theorem penText_any (bp : Nat) (q : Option Addr) (v : Value) (bs : List UInt8) (s : List UInt8) (w : World) (hq : q = none ∨ q = some ⟨bp, 0, none⟩) (hb : bs.length + s.length + 1 ≤ 1099511627776) (hw : Ws w ([blk bp (.cells #[.pointer (q), v] 85 (0, 0)), osl 5 1 v (bs).length ((bs).map byv)].flatMap Asr.ids) [blk bp (.cells #[.pointer (q), v] 85 (0, 0)), osl 5 1 v (bs).length ((bs).map byv)] [] w) :
    Calls Try.prog 45 #[.pointer (some ⟨bp, 0, none⟩), st s] w fun e w' => ∃ v' : Value, e = .returned (.tuple #[]) ∧ True ∧ Ws w ([blk bp (.cells #[.pointer (q), v] 85 (0, 0)), osl 5 1 v (bs).length ((bs).map byv)].flatMap Asr.ids) [blk bp (.cells #[.pointer (some ⟨bp, 0, none⟩), v'] 85 (0, 0)), osl 5 1 v' (bs ++ textB s).length ((bs ++ textB s).map byv)] [] w' := by
  refine enter Try.func45 rfl 13 rfl rfl ?_
  refine WC.world (W' := Ws w ([blk bp (.cells #[.pointer (q), v] 85 (0, 0)), osl 5 1 v (bs).length ((bs).map byv)].flatMap Asr.ids) [blk bp (.cells #[.pointer (q), v] 85 (0, 0)), osl 5 1 v (bs).length ((bs).map byv)] []) (fun _ e => by subst e; exact hw) ?_
  refine WC.seq ?_
  refine WC.region ?_
  refine WL.val (.inl rfl) rfl (yl_move rfl) ?_
  refine WL.val (.inl rfl) rfl (yl_move rfl) ?_
  refine WL.val (.inl rfl) rfl (yl_lens us9 rfl) ?_
  refine WL.front 1 rfl ?_
  refine WL.front 1 rfl ?_
  refine WL.callw (ι := Value) [_, _] _ (.inl rfl) rfl en46 rfl rfl (fun _ => .tuple #[]) (fun v' => [blk bp (.cells #[.pointer (some ⟨bp, 0, none⟩), v'] 85 (0, 0)), osl 5 1 v' (bs ++ [byteOf s.length]).length ((bs ++ [byteOf s.length]).map byv)]) (fun _ => True) [] (by simp) (fun w hw => penByte_any bp q v bs s.length w hq (by omega) hw) ?_
  intro v7 _
  refine WL.nil ?_
  refine WE.then_normal ?_
  refine WC.region ?_
  refine WL.val (.inl rfl) rfl (yl_move rfl) ?_
  refine WL.val (.inl rfl) rfl (yl_nil rfl) ?_
  refine WL.val (.inl rfl) rfl (yl_fa fo85_0 rfl) ?_
  refine WL.val (.inl rfl) rfl (yl_move rfl) ?_
  refine WL.front 1 rfl ?_
  refine WL.front 1 rfl ?_
  refine WL.callw (ι := Value) [_, _] _ (.inl rfl) rfl en77 rfl rfl (fun _ => .tuple #[.int .i64 s.length, .nilIface]) (fun v' => [blk bp (.cells #[.pointer (some ⟨bp, 0, none⟩), v'] 85 (0, 0)), osl 5 1 v' (bs ++ [byteOf s.length] ++ s).length ((bs ++ [byteOf s.length] ++ s).map byv)]) (fun _ => True) [] (by simp) (fun w hw => writeString_any bp (some ⟨bp, 0, none⟩) v7 (bs ++ [byteOf s.length]) s w (.inr rfl) (by simp; omega) hw) ?_
  intro v12 _
  refine WL.nil ?_
  refine WE.end0 rfl fun w' hw => ?_
  refine ⟨v12, rfl, trivial, ?_⟩
  have e : bs ++ textB s = bs ++ [byteOf s.length] ++ s := by simp [textB]
  rw [e]
  exact hw

theorem builderString_any (bp : Nat) (q : Option Addr) (v : Value) (bs : List UInt8) (h0 : bs ≠ []) (w : World) (hq : q = none ∨ q = some ⟨bp, 0, none⟩) (hb : bs.length + 1 ≤ 1099511627776) (hw : Ws w ([blk bp (.cells #[.pointer (q), v] 85 (0, 0)), osl 5 1 v (bs).length ((bs).map byv)].flatMap Asr.ids) [blk bp (.cells #[.pointer (q), v] 85 (0, 0)), osl 5 1 v (bs).length ((bs).map byv)] [] w) :
    Calls Try.prog 48 #[.pointer (some ⟨bp, 0, none⟩)] w fun e w' => e = .returned (st bs) ∧ Ws w ([blk bp (.cells #[.pointer (q), v] 85 (0, 0)), osl 5 1 v (bs).length ((bs).map byv)].flatMap Asr.ids) [] [] w' := by
  have hlen : 0 < bs.length := List.length_pos_iff.2 h0
  refine enter Try.func48 rfl 14 rfl rfl ?_
  refine WC.world (W' := Ws w ([blk bp (.cells #[.pointer (q), v] 85 (0, 0)), osl 5 1 v (bs).length ((bs).map byv)].flatMap Asr.ids) [blk bp (.cells #[.pointer (q), v] 85 (0, 0)), osl 5 1 v (bs).length ((bs).map byv)] []) (fun _ e => by subst e; exact hw) ?_
  refine WC.seq ?_
  refine WC.region ?_
  refine WL.val (.inl rfl) rfl (yl_assign rfl) ?_
  refine WL.nil ?_
  refine WE.then_normal ?_
  refine WC.seq ?_
  refine WC.shape 1 rfl hlen fun bf cf hvf hcf hmf => ?_
  subst hvf
  refine WC.draws1 1 [(0, true), (1, true), (2, true), (3, true), (5, true), (6, true), (7, true), (8, true), (9, true), (4, false), (10, false), (11, true)] mixed (by kernel_rfl) (fun _ _ _ d _ h => by cases d <;> exact h) ?_
  refine WD.q rfl (.inl rfl) rfl (fun _ h => by have h := Ws.out 1 h; exact h) (yl_move rfl) ?_
  refine WD.q rfl (.inl rfl) rfl (fun _ h => by have h := Ws.out 1 h; exact h) (yl_nil rfl) ?_
  refine WD.q rfl (.inl rfl) rfl (fun _ h => by have h := Ws.out 1 h; exact h) (yl_fa fo83_1 rfl) ?_
  refine WD.q rfl (.inl rfl) rfl (fun _ h => by have h := Ws.out 1 h; exact h) (yl_ldk 0 rfl rfl rfl na81) ?_
  refine WD.q rfl (.inl rfl) rfl (fun _ h => by have h := Ws.out 1 h; exact h) (yl_move rfl) ?_
  refine WD.q rfl (.inl rfl) rfl (fun _ h => by have h := Ws.out 1 h; exact h) (yl_nil rfl) ?_
  refine WD.q rfl (.inl rfl) rfl (fun _ h => by have h := Ws.out 1 h; exact h) (yl_fa fo83_1 rfl) ?_
  refine WD.q rfl (.inl rfl) rfl (fun _ h => by have h := Ws.out 1 h; exact h) (yl_ldk 0 rfl rfl rfl na81) ?_
  refine WD.q rfl (.inl rfl) rfl (fun _ h => by have h := Ws.out 1 h; exact h) (yl_len es81 rfl) ?_
  refine WD.e rfl (fun _ h => by have h := Ws.out 1 h; exact h) ?_
  refine WL.val (.inl rfl) rfl (yl_sld (by omega) rfl) ?_
  refine WL.nil ?_
  refine WE.toD ?_
  refine WD.e rfl (fun _ h => by have h := Ws.out 1 h; exact h) ?_
  refine WL.ustr 1 (.inl rfl) rfl up129 c1_5 rfl rfl rfl rfl h0 (by omega) ?_
  refine WL.nil ?_
  refine WE.toD ?_
  refine WD.q rfl (.inl rfl) rfl (fun _ h => by have h := Ws.out 1 h; exact h) (yl_assign rfl) ?_
  refine WD.nil (fun _ h => by have h := Ws.out 1 h; exact h) ?_
  refine WE.then_normal ?_
  refine WC.ret ?_
  refine WE.ret1 rfl rfl fun w' hw => ?_
  exact ⟨rfl, Ws.drop (L := [_]) hw⟩

end Go.Proofs.Ytagoencpeflmlaa
