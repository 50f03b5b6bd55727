/- Own base: rules that step through the code of a function, with what is known of its slots and of the memory kept as a list; no condition. -/
import Derived.Test.YtcjloelhjnnhmaaDoorBw11
namespace Go.Bw
open Go Go.RowKit
section
variable {P : Program} {Q : Exit → Act → World → Prop} {n : Nat} {ds : List Deferred} {l : List (Nat × Value)}
theorem WC.draws0 {id : Nat} {os : List Oper} {w0 : World} {F : List Nat} {L : List Asr} {Vs : List View} (ord : List (Nat × Bool)) (hm : P.follows .mixedOrders = true) (hB : (Region.noSelect os.toArray && (ord.length == os.toArray.size && ordB .any os.toArray ord (Array.replicate os.toArray.size false))) = true)
    (hQ : ∀ c a w d v, Q (.panic c) (a.put d v) w → Q (.panic c) a w) (h : WD P os.toArray (Ws w0 F L Vs) Q n ds l (Ws w0 F L Vs) ord) : WC P (.region id os.toArray true) Q n ds l (Ws w0 F L Vs) :=
  WC.draws _ ord hm hB hQ (fun _ h => h.drew) h
theorem WC.draws1 {id : Nat} {os : List Oper} {w0 : World} {F : List Nat} {L : List Asr} {Vs : List View} (i : Nat) (ord : List (Nat × Bool)) (hm : P.follows .mixedOrders = true) (hB : (Region.noSelect os.toArray && (ord.length == os.toArray.size && ordB .any os.toArray ord (Array.replicate os.toArray.size false))) = true)
    (hQ : ∀ c a w d v, Q (.panic c) (a.put d v) w → Q (.panic c) a w) (h : WD P os.toArray (Ws w0 F (outOf i L) Vs) Q n ds l (Ws w0 F L Vs) ord) : WC P (.region id os.toArray true) Q n ds l (Ws w0 F L Vs) :=
  WC.draws _ ord hm hB hQ (fun _ h => h.drew) h
end
section
variable {P : Program} {l : List (Nat × Value)} {W : World → Prop} {d : Option Tmp} {ty : TypeId} {pos : String} {af : Array Edge} {g : Option (Nat × Bool)}
theorem yl_addn {t u : TypeId} {x y : Operand} {a b : Nat} {a' b' : Int} (hx : opv l x = some (.int .i64 a')) (hy : opv l y = some (.int .i64 b')) (ea : a' = (a : Int)) (eb : b' = (b : Int)) (hb : (a : Int) + b ≤ 9223372036854775807) : Yl P l W ⟨d, .binOp .add t x y u, ty, pos, af, g⟩ (.int .i64 ((a + b : Nat) : Int)) := by
  subst ea eb
  have := yl_add (P := P) (W := W) (d := d) (ty := ty) (pos := pos) (af := af) (g := g) (t := t) (u := u) hx hy ⟨by omega, hb⟩
  rwa [show ((a + b : Nat) : Int) = (a : Int) + b by omega]
theorem yl_subn {t u : TypeId} {x y : Operand} {a b : Nat} {a' b' : Int} (hx : opv l x = some (.int .i64 a')) (hy : opv l y = some (.int .i64 b')) (ea : a' = (a : Int)) (eb : b' = (b : Int)) (hb : b ≤ a) (ha : (a : Int) ≤ 9223372036854775807) : Yl P l W ⟨d, .binOp .sub t x y u, ty, pos, af, g⟩ (.int .i64 ((a - b : Nat) : Int)) := by
  subst ea eb
  have := yl_sub (P := P) (W := W) (d := d) (ty := ty) (pos := pos) (af := af) (g := g) (t := t) (u := u) hx hy ⟨by omega, by omega⟩
  rwa [show ((a - b : Nat) : Int) = (a : Int) - b by omega]
theorem yl_func {f : FuncId} {caps : Array Operand} {vs : List Value} (ha : evs l caps.toList = some vs) : Yl P l W ⟨d, .makeFunc (.func f) #[] caps, ty, pos, af, g⟩ (.func (.func f) #[] vs.toArray) := by
  intro ρ w hρ _
  have e : caps.map ρ = vs.toArray := by
    apply Array.ext'
    simpa using evs_map hρ _ _ ha
  simp [execOp, Instr.makeFunc, e]
end
section
variable {P : Program} {ops : Array Oper} {Q : Exit → Act → World → Prop} {n : Nat} {ds : List Deferred} {l : List (Nat × Value)} {w0 : World} {F : List Nat} {L : List Asr} {Vs : List View} {rest : List Oper}
theorem WL.shape {e : TypeId} {size m : Nat} {v : Value} {xs : List Value} (i : Nat) (hL : L[i]? = some (osl e size v m xs)) (hm : 0 < m)
    (h : ∀ b c, v = .slice (some ⟨b, 0, none⟩) m c → m ≤ c → c ≤ maxLen → WL P ops Q n ds l (Ws w0 F L Vs) rest) : WL P ops Q n ds l (Ws w0 F L Vs) rest := by
  intro a w ha hw
  obtain ⟨h1, h2⟩ := (hw.kn _ (mem_of_idx hL) : w.ownsRow 0 e size v m xs)
  rcases h2 with ⟨h3, h4⟩ | ⟨b, cap, cur, hv, _, _, hmc, hc, _⟩
  · omega
  · exact h b cap hv hmc hc a w ha hw
theorem WL.reosl {e : TypeId} {size m : Nat} {v : Value} {xs : List Value} (i m' : Nat) (xs' : List Value) (hL : L[i]? = some (osl e size v m xs)) (hm : m = m') (hx : xs = xs')
    (h : WL P ops Q n ds l (Ws w0 F (L.set i (osl e size v m' xs')) Vs) rest) : WL P ops Q n ds l (Ws w0 F L Vs) rest := by
  subst hm hx
  have : L.set i (osl e size v m xs) = L := by
    obtain ⟨hi, he⟩ := List.getElem?_eq_some_iff.1 hL
    rw [← he]
    exact List.set_getElem_self hi
  rwa [this] at h
end
theorem Ws.keep {w0 w : World} {F : List Nat} {L L' : List Asr} {Vs : List View} (h : Ws w0 F (L ++ L') Vs w) : Ws w0 F L Vs w := Ws.drop (h.perm List.perm_append_comm)
end Go.Bw
