/- Each module stands behind all that it needs, and the order does not hang on how the modules were told, where what is handed in has a bulk of at most 1048576 (the second form). -/
import Derived.Deep.Upon
import Derived.Ground.GgzProg
import Derived.Ground.SlgmProg
import Derived.Scope
import Derived.Shelf.LaysC
import Derived.Shelf.LaysM
import Derived.Shelf.SlIter.Nil
import Derived.Shelf.SortM.Plain
import Derived.Shelf.SortM.SortNone
import Derived.Test.YtinnlppbkhhoiaaProg
import Derived.Test.YtinnlppbkhhoiaaRows
import Derived.Test.YtinnlppbkhhoiaaU1
set_option linter.unusedVariables false
set_option linter.unusedSimpArgs false
section
namespace Go.Proofs
open Go.Shelf
def Try.keys23_ren:Go.Shelf.Ren:=⟨fun | 7=>23 | 10=>34 | n=>n,fun | 23=>51 | 26=>9 | 3=>3 | 28=>59 | 0=>0 | 27=>58 | 33=>54 | 4=>4 | n=>n,fun | n=>n⟩
theorem Try.keys23:Go.Proofs.SlLaysZ.n7 Try.prog Try.keys23_ren:={
 mixed:=by kernel_rfl
 f7:=⟨Try.f23.name,by decide,Try.func23.trans (congrArg some (by kernel_rfl))⟩
 f10:=⟨Try.f34.name,by decide,Try.func34.trans (congrArg some (by kernel_rfl))⟩
 t0:=Try.underlying0
 a0:=Try.isAgg0
 z0:=Try.sizeOf0
 v0:=Try.zeroValue0
 t4:=Try.underlying4
 a4:=Try.isAgg4
 z4:=Try.sizeOf4
 v4:=Try.zeroValue4
 t23:=Try.underlying51
 a23:=Try.isAgg51
 z23:=Try.sizeOf51
 v23:=Try.zeroValue51
 t26:=Try.underlying9
 a26:=Try.isAgg9
 z26:=Try.sizeOf9
 v26:=Try.zeroValue9
 t27:=Try.underlying58
 a27:=Try.isAgg58
 z27:=Try.sizeOf58
 v27:=Try.zeroValue58
 t28:=Try.underlying59
 a28:=Try.isAgg59
 z28:=Try.sizeOf59
 v28:=Try.zeroValue59
 t33:=Try.underlying54
 a33:=Try.isAgg54
 z33:=Try.sizeOf54
 v33:=Try.zeroValue54 }
def Try.sorted22_ren:Go.Shelf.Ren:=⟨fun | 6=>22 | 8=>32 | 9=>33 | 11=>53 | 13=>29 | 12=>54 | 23=>51 | 24=>52 | 14=>64 | 15=>65 | 16=>66 | 17=>67 | 18=>68 | 19=>69 | 20=>70 | 21=>71 | 22=>72 | 25=>80 | 26=>60 | 27=>61 | 28=>81 | 29=>82 | 30=>30 | 31=>88 | n=>n,fun | 26=>9 | 28=>59 | 24=>27 | 0=>0 | 3=>3 | 37=>67 | 48=>94 | 50=>96 | 4=>4 | 40=>88 | 39=>87 | 45=>55 | 5=>5 | 9=>9 | 51=>110 | 55=>114 | 57=>125 | 58=>126 | 33=>54 | n=>n,fun | n=>n⟩
theorem Try.sorted22:Go.Proofs.SlLaysZ.n6 Try.prog Try.sorted22_ren:={
 mixed:=by kernel_rfl
 f6:=⟨Try.f22.name,by decide,Try.func22.trans (congrArg some (by kernel_rfl))⟩
 f8:=⟨Try.f32.name,by decide,Try.func32.trans (congrArg some (by kernel_rfl))⟩
 f11:=⟨Try.f53.name,by decide,Try.func53.trans (congrArg some (by kernel_rfl))⟩
 t0:=Try.underlying0
 a0:=Try.isAgg0
 z0:=Try.sizeOf0
 v0:=Try.zeroValue0
 t24:=Try.underlying27
 a24:=Try.isAgg27
 z24:=Try.sizeOf27
 v24:=Try.zeroValue27
 t26:=Try.underlying9
 a26:=Try.isAgg9
 z26:=Try.sizeOf9
 v26:=Try.zeroValue9
 t28:=Try.underlying59
 a28:=Try.isAgg59
 z28:=Try.sizeOf59
 v28:=Try.zeroValue59
 i26:=by kernel_rfl }
def Try.sort33_ren:Go.Shelf.Ren:=⟨fun | 6=>33 | 8=>29 | 9=>54 | 19=>51 | 20=>52 | 21=>64 | 22=>65 | 23=>66 | 24=>67 | 25=>68 | 26=>69 | 27=>70 | 28=>71 | 29=>72 | 36=>80 | 31=>60 | 32=>61 | 37=>81 | 38=>82 | 39=>30 | 41=>88 | n=>n,fun | 27=>27 | 29=>9 | 3=>3 | 32=>67 | 26=>27 | 0=>0 | 44=>94 | 46=>96 | 4=>4 | 36=>88 | 35=>87 | 41=>55 | 5=>5 | 9=>9 | 53=>110 | 57=>114 | 63=>125 | 64=>126 | n=>n,fun | n=>n⟩
theorem Try.sort33:Go.Proofs.SlLaysM.n6 Try.prog Try.sort33_ren:={
 mixed:=by kernel_rfl
 f6:=⟨Try.f33.name,by decide,Try.func33.trans (congrArg some (by kernel_rfl))⟩
 f8:=Try.func29.trans (congrArg some (by kernel_rfl))
 f9:=⟨Try.f54.name,by decide,Try.func54.trans (congrArg some (by kernel_rfl))⟩
 f19:=Try.func51.trans (congrArg some (by kernel_rfl))
 f20:=Try.func52.trans (congrArg some (by kernel_rfl))
 f21:=⟨Try.f64.name,by decide,Try.func64.trans (congrArg some (by kernel_rfl))⟩
 f22:=⟨Try.f65.name,by decide,Try.func65.trans (congrArg some (by kernel_rfl))⟩
 f23:=⟨Try.f66.name,by decide,Try.func66.trans (congrArg some (by kernel_rfl))⟩
 f24:=⟨Try.f67.name,by decide,Try.func67.trans (congrArg some (by kernel_rfl))⟩
 f25:=⟨Try.f68.name,by decide,Try.func68.trans (congrArg some (by kernel_rfl))⟩
 f26:=⟨Try.f69.name,by decide,Try.func69.trans (congrArg some (by kernel_rfl))⟩
 f27:=⟨Try.f70.name,by decide,Try.func70.trans (congrArg some (by kernel_rfl))⟩
 f28:=⟨Try.f71.name,by decide,Try.func71.trans (congrArg some (by kernel_rfl))⟩
 f29:=⟨Try.f72.name,by decide,Try.func72.trans (congrArg some (by kernel_rfl))⟩
 f31:=Try.func60.trans (congrArg some (by kernel_rfl))
 f32:=Try.func61.trans (congrArg some (by kernel_rfl))
 f36:=⟨Try.f80.name,by decide,Try.func80.trans (congrArg some (by kernel_rfl))⟩
 f37:=⟨Try.f81.name,by decide,Try.func81.trans (congrArg some (by kernel_rfl))⟩
 f38:=⟨Try.f82.name,by decide,Try.func82.trans (congrArg some (by kernel_rfl))⟩
 f39:=⟨Try.f30.name,by decide,Try.func30.trans (congrArg some (by kernel_rfl))⟩
 f41:=⟨Try.f88.name,by decide,Try.func88.trans (congrArg some (by kernel_rfl))⟩
 t0:=Try.underlying0
 a0:=Try.isAgg0
 z0:=Try.sizeOf0
 v0:=Try.zeroValue0
 t3:=Try.underlying3
 a3:=Try.isAgg3
 z3:=Try.sizeOf3
 v3:=Try.zeroValue3
 t4:=Try.underlying4
 a4:=Try.isAgg4
 z4:=Try.sizeOf4
 v4:=Try.zeroValue4
 t5:=Try.underlying5
 a5:=Try.isAgg5
 z5:=Try.sizeOf5
 v5:=Try.zeroValue5
 t9:=Try.underlying9
 a9:=Try.isAgg9
 z9:=Try.sizeOf9
 v9:=Try.zeroValue9
 t26:=Try.underlying27
 a26:=Try.isAgg27
 z26:=Try.sizeOf27
 v26:=Try.zeroValue27
 t27:=Try.underlying27
 a27:=Try.isAgg27
 z27:=Try.sizeOf27
 v27:=Try.zeroValue27
 t29:=Try.underlying9
 a29:=Try.isAgg9
 z29:=Try.sizeOf9
 v29:=Try.zeroValue9
 t32:=Try.underlying67
 a32:=Try.isAgg67
 z32:=Try.sizeOf67
 v32:=Try.zeroValue67
 t35:=Try.underlying87
 a35:=Try.isAgg87
 z35:=Try.sizeOf87
 v35:=Try.zeroValue87
 t36:=Try.underlying88
 a36:=Try.isAgg88
 z36:=Try.sizeOf88
 v36:=Try.zeroValue88
 t41:=Try.underlying55
 a41:=Try.isAgg55
 z41:=Try.sizeOf55
 v41:=Try.zeroValue55
 t44:=Try.underlying94
 a44:=Try.isAgg94
 z44:=Try.sizeOf94
 v44:=Try.zeroValue94
 t46:=Try.underlying96
 a46:=Try.isAgg96
 z46:=Try.sizeOf96
 v46:=Try.zeroValue96
 t53:=Try.underlying110
 a53:=Try.isAgg110
 z53:=Try.sizeOf110
 v53:=Try.zeroValue110
 t57:=Try.underlying114
 a57:=Try.isAgg114
 z57:=Try.sizeOf114
 v57:=Try.zeroValue114
 t63:=Try.underlying125
 a63:=Try.isAgg125
 z63:=Try.sizeOf125
 v63:=Try.zeroValue125
 t64:=Try.underlying126
 a64:=Try.isAgg126
 z64:=Try.sizeOf126
 v64:=Try.zeroValue126 }
end Go.Proofs
end
section
set_option linter.unusedSimpArgs false
namespace Go.Bw
open Go Go.RowKit
section
variable {κ:Type} [BEq κ] [LawfulBEq κ] {kd:TypeDesc} {kv:κ→Value}
variable {P:Program} {l:List (Nat×Value)} {w0:World} {F:List Nat} {L:List Asr} {Vs:List View} {ty:TypeId} {pos:String} {af:Array Edge} {g:Option (Nat×Bool)}
theorem yl_glookv {dd:Option Tmp} {t kt e:TypeId} {x y:Operand} {b c:Nat} {m:List (GEnt κ)} {k:κ} {z:Value} (i:Nat) {H:View} (hH:Vs[i]? = some H) (hkk:KeyOk kd kv) (ht:P.underlying t=some (.map kt e)) (hk:P.underlying kt=some kd) (hz:zeroOf P e=some z) (hx:opv l x=some (.map (some b))) (hy:opv l y=some (kv k)) (hb:H b=some (gobj kv m c)) :
   Yl P l (Ws w0 F L Vs) ⟨dd,.lookup t x y false,ty,pos,af,g⟩ (gget k m z):=by
 intro ρ w hρ hw
 simp [execOp,hρ x _ hx,hρ y _ hy,run_glook (P:=P) (k:=k) false hkk ht hk hz (hw.vs H (mem_of_idx hH) b _ hb:w.heap[b]? = some (gobj kv m c))]
theorem yl_glook2v {dd:Option Tmp} {t kt e:TypeId} {x y:Operand} {b c:Nat} {m:List (GEnt κ)} {k:κ} {z:Value} (i:Nat) {H:View} (hH:Vs[i]? = some H) (hkk:KeyOk kd kv) (ht:P.underlying t=some (.map kt e)) (hk:P.underlying kt=some kd) (hz:zeroOf P e=some z) (hx:opv l x=some (.map (some b))) (hy:opv l y=some (kv k)) (hb:H b=some (gobj kv m c)) :
   Yl P l (Ws w0 F L Vs) ⟨dd,.lookup t x y true,ty,pos,af,g⟩ (.tuple #[gget k m z,.bool (ghas k m)]):=by
 intro ρ w hρ hw
 simp [execOp,hρ x _ hx,hρ y _ hy,run_glook (P:=P) (k:=k) true hkk ht hk hz (hw.vs H (mem_of_idx hH) b _ hb:w.heap[b]? = some (gobj kv m c))]
end
theorem Ws.nvb {w0 w:World} {L:List Asr} {Vs:List View} (h:Ws w0 [] L Vs w) (i:Nat) {b:Nat} {ob:Obj} (hL:L[i]? = some (blk b ob)):nv w0 w b=some ob:=by
 have hb:w.heap[b]? = some ob:=h.kn _ (mem_of_idx hL)
 have hn:w0.heap.size≤b:=by
   rcases h.own _ (mem_of_idx hL) b (by simp [blk]) with h' | h'
   · cases h'
   · exact h'
 unfold nv
 rw [if_pos hn]
 exact hb
section
variable {Q:Exit→Act→World→Prop} {n:Nat} {ds:List Deferred} {l:List (Nat×Value)} {w0:World} {F:List Nat} {L:List Asr} {Vs:List View}
theorem WE.reblk {e:Exit} {b:Nat} {ob:Obj} (i:Nat) (ob':Obj) (hL:L[i]? = some (blk b ob)) (he:ob=ob') (h:WE Q e n ds l (Ws w0 F (L.set i (blk b ob')) Vs)):WE Q e n ds l (Ws w0 F L Vs):=by
 subst he
 have:L.set i (blk b ob)=L:=by
   obtain ⟨hi,he⟩:=List.getElem?_eq_some_iff.1 hL
   rw [←he]
   exact List.set_getElem_self hi
 rwa [this] at h
end
theorem vc_blk {H:View} {b k:Nat} {ob:Obj} {v:Value} (h:H b=some ob) (hc:cellIn ob k=some v):vc H b k=some v:=by
 unfold vc
 rw [h]
 exact hc
end Go.Bw
end
section
set_option linter.unusedSimpArgs false
namespace Go.Bw
open Go Go.RowKit
section
variable {P:Program} {Q:Exit→Act→World→Prop} {n:Nat} {ds:List Deferred} {l:List (Nat×Value)} {W:World→Prop}
theorem WC.scope {c:Code} (h:WC P c (Exit.noGoto Q) n ds l W):WC P (.scope c) Q n ds l W:=fun a w ha hw=>wp_scope_straight (h a w ha hw)
theorem WC.label {i:Nat} (h:WE Q .normal n ds l W):WC P (.label i) Q n ds l W:=fun a w ha hw=>wp_label (h a w ha hw)
theorem WE.scope_ret (h:WE Q .ret n ds l W):WE (Exit.noGoto Q) .ret n ds l W:=h
end
section
variable {P:Program} {l:List (Nat×Value)} {W:World→Prop} {ty:TypeId} {pos:String} {af:Array Edge} {g:Option (Nat×Bool)} {d:Option Tmp}
theorem yl_lts {t u:TypeId} {x y:Operand} {a b:List UInt8} (hx:opv l x=some (st a)) (hy:opv l y=some (st b)):Yl P l W ⟨d,.binOp .lss t x y u,ty,pos,af,g⟩ (.bool (Op.bytesLess a b)):=
 fun ρ w hρ _=>by simp [execOp,hρ x _ hx,hρ y _ hy,st,eqGuard,binOp,Op.stringOp]
theorem yl_gts {t u:TypeId} {x y:Operand} {a b:List UInt8} (hx:opv l x=some (st a)) (hy:opv l y=some (st b)):Yl P l W ⟨d,.binOp .gtr t x y u,ty,pos,af,g⟩ (.bool (!(Op.bytesLess a b||a==b))):=
 fun ρ w hρ _=>by simp [execOp,hρ x _ hx,hρ y _ hy,st,eqGuard,binOp,Op.stringOp]
end
section
variable {P:Program} {ops:Array Oper} {cd:Code} {Q:Exit→Act→World→Prop} {n:Nat} {ds:List Deferred} {l:List (Nat×Value)} {w0:World} {F:List Nat} {L:List Asr} {Vs:List View} {rest:List Oper}
theorem WL.blkH {b:Nat} {ob:Obj} (i:Nat) (hL:L[i]? = some (blk b ob)) (h:∀H:View,H b=some ob→WL P ops Q n ds l (Ws w0 F (outOf i L) (H::Vs)) rest):WL P ops Q n ds l (Ws w0 F L Vs) rest:=
 WL.blkview i hL (h _ (by simp [bv]))
theorem WC.blkH {b:Nat} {ob:Obj} (i:Nat) (hL:L[i]? = some (blk b ob)) (h:∀H:View,H b=some ob→WC P cd Q n ds l (Ws w0 F (outOf i L) (H::Vs))):WC P cd Q n ds l (Ws w0 F L Vs):=
 fun a w ha hw=>h _ (by simp [bv]) a w ha (hw.blkview i hL)
end
end Go.Bw
end
section
namespace Go.Bw
open Go Go.RowKit
set_option linter.unusedVariables false
set_option linter.unusedSimpArgs false
def osX (e:TypeId) (v:Value) (vs:List Value):Asr:=
 ⟨v.ownBlock.toList,fun w=>(v = .slice none 0 0∧vs=[])∨∃b o cap cur,v = .slice (some ⟨b,o,none⟩) vs.length cap∧w.heap[b]? = some (.cells cur e (0,0))∧vs.length≤cap∧cap≤maxLen∧o+cap≤cur.size∧(cur.toList.drop o).take vs.length=vs,
  fun w w' h hw=>by
   rcases hw with h2 | ⟨b,o,cap,cur,hv,hg,r⟩
   · exact .inl h2
   · exact .inr ⟨b,o,cap,cur,hv,by rw [h b (by simp [hv,Value.ownBlock])]; exact hg,r⟩,
  fun w hw k hk=>by
   rcases hw with ⟨h2,_⟩ | ⟨b,o,cap,cur,hv,hg,r⟩
   · subst h2; simp [Value.ownBlock] at hk
   · subst hv; simp [Value.ownBlock] at hk; subst hk; exact lt_of_heap hg⟩
theorem osX_of {e:TypeId} {v:Value} {vs:List Value} {w:World} (h:w.ownsRow 0 e 1 v vs.length vs):(osX e v vs).holds w:=by
 rcases h.2 with ⟨h1,h2⟩ | ⟨b,cap,cur,hv,_,hg,hm,hc,hs,ht⟩
 · exact .inl ⟨h1,List.eq_nil_of_length_eq_zero h2⟩
 · exact .inr ⟨b,0,cap,cur,hv,hg,hm,hc,by omega,by simpa using ht⟩
section
variable {P:Program} {ops:Array Oper} {cd:Code} {Q:Exit→Act→World→Prop} {n:Nat} {ds:List Deferred} {l:List (Nat×Value)} {w0:World} {F:List Nat} {L:List Asr} {Vs:List View} {rest:List Oper}
 {d:Nat} {ty:TypeId} {pos:String} {af:Array Edge} {g:Option (Nat×Bool)}
theorem Ws.toX {e:TypeId} {v:Value} {vs:List Value} {m:Nat} {w:World} (hw:Ws w0 F L Vs w) (i:Nat) (hL:L[i]? = some (osl e 1 v m vs)) (hm:m=vs.length):Ws w0 F (L.set i (osX e v vs)) Vs w:=by
 subst hm
 exact hw.turn1 i hL (Fr.refl _ _) (osX_of (hw.kn _ (mem_of_idx hL))) (by cases hv:v.ownBlock<;>simp [osX,hv]) fun k hk=>.inl hk
theorem WL.toX {e:TypeId} {v:Value} {vs:List Value} {m:Nat} (i:Nat) (hL:L[i]? = some (osl e 1 v m vs)) (hm:m=vs.length) (h:WL P ops Q n ds l (Ws w0 F (L.set i (osX e v vs)) Vs) rest):WL P ops Q n ds l (Ws w0 F L Vs) rest:=
 LW (fun _ hw=>hw.toX i hL hm) h
theorem osX_shape {e:TypeId} {a:Option Addr} {m c:Nat} {vs:List Value} {w:World} (hw:Ws w0 F L Vs w) (i:Nat) (hL:L[i]? = some (osX e (.slice a m c) vs)):m=vs.length∧vs.length≤c∧c≤maxLen∧(0<vs.length→∃b o,a=some ⟨b,o,none⟩):=by
 rcases (hw.kn _ (mem_of_idx hL):(osX e (.slice a m c) vs).holds w) with ⟨h1,h2⟩ | ⟨b,o,cap,cur,hv,hg,hm,hc,_⟩
 · injection h1 with _ h4 h5
   subst h2 h4 h5
   exact ⟨rfl,Nat.le_refl _,by unfold maxLen; omega,fun h=>absurd h (by simp)⟩
 · injection hv with h3 h4 h5
   subst h3 h4 h5
   exact ⟨rfl,hm,hc,fun _=>⟨b,o,rfl⟩⟩
theorem WC.shapeX {e:TypeId} {a:Option Addr} {m c:Nat} {vs:List Value} (i:Nat) (hL:L[i]? = some (osX e (.slice a m c) vs)) (h:vs.length≤c→c≤maxLen→(0<vs.length→∃b o,a=some ⟨b,o,none⟩)→WC P cd Q n ds l (Ws w0 F L Vs)):WC P cd Q n ds l (Ws w0 F L Vs):=by
 intro A w ha hw
 obtain ⟨_,h1,h2,h3⟩:=osX_shape hw i hL
 exact h h1 h2 h3 A w ha hw
theorem yl_ldX {t e:TypeId} {x:Operand} {b o p m c:Nat} {a:Option Addr} {vs:List Value} {v:Value} {d:Option Tmp} (i j:Nat) (hx:opv l x=some (.pointer (some ⟨b,p,none⟩))) (hL:L[i]? = some (osX e (.slice a m c) vs)) (ha:a=some ⟨b,o,none⟩)
   (hp:p=o+j) (hy:vs[j]? = some v) (ht:nonAgg P t=true):Yl P l (Ws w0 F L Vs) ⟨d,.load t x,ty,pos,af,g⟩ v:=yl_ldc ht hx fun w hw=>by
 rcases (hw.kn _ (mem_of_idx hL):(osX e (.slice a m c) vs).holds w) with ⟨h1,h2⟩ | ⟨b',o',cap,cur,hv,hg,hm,hc,_,hs⟩
 · rw [h2] at hy; cases hy
 · injection hv with h3 h4 h5
   rw [ha] at h3
   injection h3 with h3
   injection h3 with h6 h7
   subst h6 h7
   refine cell_of_heap hg ?_
   rw [←hs,List.getElem?_take] at hy
   split at hy
   · rw [List.getElem?_drop] at hy
     subst hp
     simpa [cellIn] using hy
   · cases hy
theorem Ws.popX {e:TypeId} {a:Option Addr} {c:Nat} {u:Value} {vs:List Value} {w:World} (hw:Ws w0 F L Vs w) (i:Nat) (hL:L[i]? = some (osX e (.slice a (u::vs).length c) (u::vs))) :
   Ws w0 F (L.set i (osX e (.slice (if c-1=0 then a else a.map (·.add (1*1))) ((u::vs).length-1) (c-1)) vs)) Vs w:=by
 rcases (hw.kn _ (mem_of_idx hL):(osX e (.slice a (u::vs).length c) (u::vs)).holds w) with ⟨_,h2⟩ | ⟨b,o,cap,cur,hv,hg,hm,hc,hcs,hs⟩
 · cases h2
 · injection hv with h3 h4 h5
   subst h3 h5
   have hl:(u::vs).length=vs.length+1:=rfl
   refine hw.turn1 i hL (Fr.refl _ _) ?_ ?_ ?_
   · by_cases h0:c-1=0
     · rw [if_pos h0]
       have hv0:vs=[]:=List.eq_nil_of_length_eq_zero (by omega)
       subst hv0
       exact .inr ⟨b,o,c-1,cur,rfl,hg,by simp,by omega,by omega,by simp⟩
     · rw [if_neg h0]
       refine .inr ⟨b,o+1,c-1,cur,rfl,hg,by omega,by omega,by omega,?_⟩
       have h6:(cur.toList.drop o).take (vs.length+1)=u::vs:=hs
       rw [←List.drop_drop]
       cases hd:cur.toList.drop o with
       | nil=>rw [hd] at h6; simp at h6
       | cons x r=>
         rw [hd,List.take_succ_cons] at h6
         injection h6 with _ h7
   · split<;>simp [osX,Value.ownBlock]
   · intro k hk
     left
     split at hk<;>simpa [osX,Value.ownBlock,add_none] using hk
theorem WL.popX {e t:TypeId} {a:Option Addr} {c:Nat} {x y:Operand} {k:IntKind} {h1:Int} {α:Type} {f:α→Value} {z:α} {zs:List α} (i:Nat) (hg:GOk ops l g) (hn:Nat.blt d n=true) (hs:elemSz P t=some 1) (hx:opv l x=some (.slice a (z::zs).length c)) (hy:opv l y=some (.int k h1)) (hh:h1=((1:Nat):Int))
   (hL:L[i]? = some (osX e (.slice a (z::zs).length c) ((z::zs).map f)))
   (h:∀a' c',WL P ops Q n ds ((d,.slice a' zs.length c')::l) (Ws w0 F (L.set i (osX e (.slice a' zs.length c') (zs.map f))) Vs) rest) :
   WL P ops Q n ds l (Ws w0 F L Vs) (⟨some d,.slice t x (some y) none none,ty,pos,af,g⟩::rest):=by
 have hc:∀w,Ws w0 F L Vs w→(z::zs).length≤c:=fun w hw=>by
   have:=(osX_shape hw i hL).2.1
   simpa using this
 intro A w hA hw
 refine Lv hg hn (v:=.slice (if c-1=0 then a else a.map (·.add (1*1))) zs.length (c-1)) (yl_slln 1 hs hx hy hh (by simp) (hc w hw)) (LW (fun w' hw'=>?_) (h _ _)) A w hA hw
 have h9:=Ws.popX (u:=f z) (vs:=zs.map f) hw' i (by simpa using hL)
 simpa using h9
theorem setCell_heap {w:World} {b o:Nat} {v:Value} {cur:Array Value} {e:TypeId} {fz:Nat×Nat} (h:w.heap[b]? = some (.cells cur e fz)):(w.setCell ⟨b,o,none⟩ v).heap[b]? = some (.cells (cur.setIfInBounds o v) e fz):=by
 simp [World.setCell,Array.getElem?_modify,h]
theorem setCells_heap {b:Nat} {e:TypeId} {fz:Nat×Nat}:∀(vs:List Value) (o:Nat) (w:World) (cur:Array Value),w.heap[b]? = some (.cells cur e fz)→o+vs.length≤cur.size→
   ∃cur',(w.setCells b o vs).heap[b]? = some (.cells cur' e fz)∧cur'.size=cur.size∧(∀j,j<o→cur'[j]? = cur[j]?)∧∀j,j<vs.length→cur'[o+j]? = vs[j]?
 | [],o,w,cur,h,_=>⟨cur,h,rfl,fun _ _=>rfl,fun j hj=>by cases hj⟩
 | v::r,o,w,cur,h,hl=>by
   obtain ⟨cur',h1,h2,h3,h4⟩:=setCells_heap r (o+1) _ _ (setCell_heap (o:=o) (v:=v) h) (by simp at hl ⊢; omega)
   refine ⟨cur',h1,by simpa using h2,fun j hj=>?_,fun j hj=>?_⟩
   · rw [h3 j (by omega),Array.getElem?_setIfInBounds_ne (by omega)]
   · cases j with
     | zero=>rw [Nat.add_zero,h3 o (by omega),Array.getElem?_setIfInBounds_self_of_lt (by simp at hl; omega)]; rfl
     | succ j=>rw [show o+(j+1)=o+1+j by omega,h4 j (by simpa using hj)]; rfl
theorem setCells_meta (b:Nat):∀(vs:List Value) (o:Nat) (w:World),(w.setCells b o vs).tape=w.tape∧(w.setCells b o vs).heap.size=w.heap.size
 | [],_,_=>⟨rfl,rfl⟩
 | v::r,o,w=>by
   obtain ⟨h1,h2⟩:=setCells_meta b r (o+1) (w.setCell ⟨b,o,none⟩ v)
   exact ⟨h1,h2.trans (by simp [World.setCell])⟩
theorem WL.appendX {α:Type} {f:α→Value} {rd:View→Nat→Nat→α→Prop} {t e:TypeId} {z:Value} {bytes:Nat} {s y:Operand} {a a2:Option Addr} {c c2:Nat} {xs ys:List α} (i:Nat) (H:World→View) (hg:GOk ops l g) (hn:Nat.blt d n=true) (hE:EltOk P t e z 1 bytes)
   (hs:opv l s=some (.slice a xs.length c)) (hy:opv l y=some (.slice a2 ys.length c2)) (hL:L[i]? = some (osX e (.slice a xs.length c) (xs.map f))) (hH:∀w,Ws w0 F L Vs w→Le (H w) w∧Sl rd 1 (H w) a2 c2 ys) (hrd:∀H b o x,rd H b o x→vc H b o=some (f x))
   (h1:∀x,(f x).oneCell'=true) (h63:xs.length+ys.length≤9223372036854775807) (hby:(xs.length+ys.length)*bytes≤140737488355328)
   (h:∀a' c',WL P ops Q n ds ((d,.slice a' (xs++ys).length c')::l) (Ws w0 F (L.set i (osX e (.slice a' (xs++ys).length c') ((xs++ys).map f))) Vs) rest) :
   WL P ops Q n ds l (Ws w0 F L Vs) (⟨some d,.call ⟨.builtin .append,#[s,y],#[t,t]⟩,ty,pos,af,g⟩::rest):=by
 refine WL.step hg fun A w hA hw K hK=>?_
 obtain ⟨inf,hi,hz,hsz,hbt⟩:=hE.info
 obtain ⟨hle,hsl⟩:=hH w hw
 obtain ⟨_,hcap,hcm,_⟩:=osX_shape hw i hL
 rw [List.length_map] at hcap
 suffices hx:∃v' w',(Builtin.append_ #[t,t] ty #[.slice a xs.length c,.slice a2 ys.length c2]).run P w = .ok v' w'∧∃a' c',v' = .slice a' (xs++ys).length c'∧Ws w0 F (L.set i (osX e (.slice a' (xs++ys).length c') ((xs++ys).map f))) Vs w' by
   obtain ⟨v',w',hrun,a',c',rfl,hws⟩:=hx
   have hrun':(execOp A.eval ⟨some d,.call ⟨.builtin .append,#[s,y],#[t,t]⟩,ty,pos,af,g⟩).run P w = .ok (.value (.slice a' (xs++ys).length c')) w':=by
     simp only [execOp,resolve,List.map_toArray,List.map_cons,List.map_nil,hA.eval hs,hA.eval hy,Sem.run_bind,Sem.run_pure,Result.andThen_ok,invoke,builtin,hrun]
   simp only [Oper.wp,hrun',Oper.upon_value]
   exact hK _ _ (h a' c' _ _ (hA.put hn _) hws)
 by_cases hys:ys=[]
 · subst hys
   have hrun:=run_append_nothing (P:=P) w t t ty e inf hE.under hi a xs.length c hcap (.slice a2 0 c2) ⟨.inl ⟨e,hE.under⟩,fun _=>rfl,by cases a2<;>simp [Builtin.firstCells,loadCells,loadCellsFrom],by cases a2<;>simp [Builtin.firstCells,loadCells,loadCellsFrom],by simp,by simp⟩
   refine ⟨_,_,hrun,a,c,by simp,?_⟩
   have hset:L.set i (osX e (.slice a (xs++[]).length c) ((xs++[]).map f))=L:=by
     rw [List.append_nil,←(List.getElem?_eq_some_iff.1 hL).2]; exact List.set_getElem_self _
   rw [hset]
   exact hw
 · obtain ⟨b2,o2,ha2,_⟩:=hsl.elt 0 _ (List.getElem?_eq_getElem (List.length_pos_iff.2 hys))
   subst ha2
   have hyl:=List.length_pos_iff.2 hys
   have hsrc:Src P inf.size t (.slice (some ⟨b2,o2,none⟩) ys.length c2) ys.length (ys.map f) w:=by
     rw [hsz]
     refine Src.ofSlice w hE.under _ _ _ _ (by simp) (fun j u hu=>?_) (fun u hu=>?_)
     · rw [List.getElem?_map] at hu
       obtain ⟨x,hx,rfl⟩:=Option.map_eq_some_iff.1 hu
       obtain ⟨b3,o3,hb3,hr⟩:=hsl.elt j x hx
       injection hb3 with hb3
       injection hb3 with hb3 ho3
       subst hb3 ho3
       rw [add_none]
       have:=hrd _ _ _ _ hr
       rw [Nat.mul_one] at this
       exact hle.cell this
     · obtain ⟨x,_,rfl⟩:=List.mem_map.1 hu
       exact h1 x
   have e2:xs.length+ys.length=(xs++ys).length:=by simp
   have hlen:(xs.map f++ys.map f).length=(xs++ys).length:=by simp
   have grown:∀G,G=grownCap w (xs.length+ys.length) c e→Ws w0 F (L.set i (osX e (.slice (some ⟨w.heap.size,0,none⟩) (xs++ys).length G) ((xs++ys).map f))) Vs
       (w.drew.alloc (.cells ((xs.map f++ys.map f).toArray++Builtin.zeroCells z.cells (G-(xs.length+ys.length))) e)):=by
     intro G hG
     have hge:=grownCap_ge w (xs.length+ys.length) c e
     have hcm2:grownCap w (xs.length+ys.length) c e≤maxLen:=grownCap_le_maxLen w _ c e (by unfold maxLen; omega)
     rw [←hG] at hge hcm2
     refine hw.turn1 i hL ⟨rfl,rfl,rfl,by simp,fun k hk _=>heap_alloc_old w.drew _ hk⟩ ?_ (by simp [osX,Value.ownBlock]) fun k hk=>.inr ?_
     · refine .inr ⟨w.heap.size,0,G,_,by rw [List.length_map],heap_alloc_new w.drew _,by rw [List.length_map]; omega,hcm2,?_,?_⟩
       · simp only [Array.size_append,List.size_toArray,size_zeroCells,hE.zs,hlen]
         omega
       · rw [List.drop_zero,Array.toList_append,List.map_append,List.length_append,←List.length_append]
         exact List.take_left
     · simp [osX,Value.ownBlock] at hk; omega
   rcases (hw.kn _ (mem_of_idx hL):(osX e (.slice a xs.length c) (xs.map f)).holds w) with ⟨hv,hx0⟩ | ⟨b,o,cap,cur,hv,hb,hm,hc,hcs,htk⟩
   · injection hv with hv1 hv2 hv3
     have hx1:xs=[]:=by simpa using hx0
     subst hv1 hv3 hx1
     have hrun:=run_append_grow_src (P:=P) w t t ty e inf z hE.under hi hz none 0 0 [] (run_firstCells_none w.drew _ 0 0 0) _ _ _ hsrc (by omega) (by simp at h63 ⊢; omega) (by rw [hbt]; exact growslice_fits (by omega) (by simpa using hby))
     exact ⟨_,_,hrun,some ⟨w.heap.size,0,none⟩,grownCap w (0+ys.length) 0 e,by simp,by simpa using grown _ rfl⟩
   · injection hv with hv1 hv2 hv3
     subst hv1 hv3
     rw [List.length_map] at htk hm
     by_cases hroom:xs.length+ys.length≤c
     · have hcell:∀j,j<c→∃v,cur[o+j]? = some v:=fun j hj=>⟨_,Array.getElem?_eq_getElem (by omega)⟩
       have hrun:=run_append_room_src (P:=P) w t t ty e inf hE.under hi b o xs.length c _ _ _ hsrc hroom (fun j hj=>by
         rw [hsz,Nat.mul_one]
         obtain ⟨v,hv⟩:=hcell (xs.length+j) (by simp at hj; omega)
         rw [cell_of_heap hb (v:=v) (by simpa [cellIn,Nat.add_assoc] using hv)]
         rfl) (fun j hj=>by simp [World.frozen?,hb])
       refine ⟨_,_,hrun,_,c,by rw [e2],?_⟩
       rw [hsz,Nat.mul_one]
       obtain ⟨cur',k1,k2,k3,k4⟩:=setCells_heap (ys.map f) (o+xs.length) w cur hb (by simp; omega)
       refine hw.turn1 i hL ⟨World.os_setCells _ _ _ _,(setCells_meta _ _ _ _).1,World.output_setCells _ _ _ _,Nat.le_of_eq (setCells_meta _ _ _ _).2.symm,fun k hk hne=>World.heap_setCells_other _ _ _ _ hk (by simpa [osX,Value.ownBlock] using hne)⟩ ?_ (by simp [osX,Value.ownBlock]) fun k hk=>.inl (by simpa [osX,Value.ownBlock] using hk)
       · refine .inr ⟨b,o,c,cur',by rw [List.length_map],k1,by rw [List.length_map]; omega,hc,by omega,?_⟩
         rw [List.length_map]
         apply List.ext_getElem?
         intro j
         rw [List.getElem?_take]
         by_cases hj:j<(xs++ys).length
         · rw [if_pos hj,List.getElem?_drop,Array.getElem?_toList,List.map_append]
           by_cases hj2:j<xs.length
           · rw [k3 _ (by omega),List.getElem?_append_left (by simpa using hj2),←htk,List.getElem?_take,if_pos hj2,List.getElem?_drop,Array.getElem?_toList]
           · rw [List.getElem?_append_right (by simp; omega),List.length_map,←k4 _ (by simp at hj ⊢; omega)]
             congr 1
             omega
         · rw [if_neg hj,List.getElem?_eq_none (by simp at hj ⊢; omega)]
     · have hold:∀j v,(xs.map f)[j]? = some v→w.cell? ((⟨b,o,none⟩:Addr).add j)=some v:=fun j v hv=>by
         rw [add_none]
         refine cell_of_heap hb ?_
         rw [←htk,List.getElem?_take] at hv
         split at hv
         · rw [List.getElem?_drop] at hv
           simpa [cellIn] using hv
         · cases hv
       have hrun:=run_append_grow_src (P:=P) w t t ty e inf z hE.under hi hz (some ⟨b,o,none⟩) xs.length c (xs.map f) (run_firstCells_some w.drew inf.size xs.length ⟨b,o,none⟩ xs.length c (xs.map f) (by rw [hsz]; simp) (by simpa using hold)) _ _ _ hsrc (by omega) (by omega) (by rw [hbt]; exact growslice_fits (by omega) hby)
       exact ⟨_,_,hrun,_,_,by rw [e2],grown _ rfl⟩
theorem WL.popX2 {e t:TypeId} {a:Option Addr} {c:Nat} {x y:Operand} {k:IntKind} {h1:Int} {α:Type} {f:α→Value} {xs:List α} {z:α} {zs:List α} (i:Nat) (hz:xs=z::zs) (hg:GOk ops l g) (hn:Nat.blt d n=true) (hs:elemSz P t=some 1) (hx:opv l x=some (.slice a xs.length c)) (hy:opv l y=some (.int k h1)) (hh:h1=((1:Nat):Int))
   (hL:L[i]? = some (osX e (.slice a xs.length c) (xs.map f)))
   (h:∀a' c',WL P ops Q n ds ((d,.slice a' zs.length c')::l) (Ws w0 F (L.set i (osX e (.slice a' zs.length c') (zs.map f))) Vs) rest) :
   WL P ops Q n ds l (Ws w0 F L Vs) (⟨some d,.slice t x (some y) none none,ty,pos,af,g⟩::rest):=by
 subst hz
 exact WL.popX i hg hn hs hx hy hh hL h
end
end Go.Bw
end
section
namespace Go.Bw
open Go
set_option linter.unusedVariables false
set_option linter.unusedSimpArgs false
abbrev Tx:=List UInt8
def J (l:List Tx):Tx:=Lib.join l [32]
theorem tot0 {a b:Cnt} (h:(a+b).tot=0):a.tot=0∧b.tot=0:=by
 rw [Cnt.tot_add] at h; omega
theorem noteF0 {b:Bool} (h:(noteF b).tot=0):b=false:=by cases b; rfl; cases h
theorem noteM0 {b:Bool} (h:(noteM b).tot=0):b=false:=by cases b; rfl; cases h
structure OkE (op n:Int) (mod nm:Tx) (args:List TExpr) (d:Nat):Prop where
 deep:d≤6
 kind:1≤op∧op≤15
 name:badName (within_ op 3 5) mod nm=false
 nargs:badArgs (exprArgsT op) args.length=false
 few:args.length≤3
 num:numBad op n=false
 sub:(cntEs args (d+1)).tot=0
structure OkS (op:Int) (mod nm:Tx) (args:List TExpr) (body other:List TStmt) (d:Nat):Prop where
 kind:1≤op∧op≤7
 name:badName (within_ op 1 3) mod nm=false
 nargs:badArgs (stmtArgsT op) args.length=false
 few:args.length≤3
 exprs:(cntEs args 1).tot=0
 form:bodyBad op body.length other.length=false
 body:(inner op||decide (0<body.length))=true→(blkC (d+1) body.length (cntSs body (d+1))).tot=0
 other:0<other.length→(blkC (d+1) other.length (cntSs other (d+1))).tot=0
theorem OkS.len {op:Int} {mod nm:Tx} {args:List TExpr} {body other:List TStmt} {d:Nat} (h:OkS op mod nm args body other d) (ho:op≠3):args.length=if op=2 then 2 else 1:=by
 have:=h.nargs
 unfold badArgs stmtArgsT at this
 by_cases h2:op=2
 · rw [if_pos h2] at this ⊢; simp at this; omega
 · rw [if_neg h2,if_neg ho] at this; rw [if_neg h2]; simp at this; omega
theorem declsC0:∀{l:List TDecl},(declsC l).tot=0→∀d ∈ l,(declC d).tot=0
 | [],_,d,hd=>by simp at hd
 | x::r,h,d,hd=>by
   unfold declsC at h
   obtain ⟨h1,h2⟩:=tot0 h
   rcases List.mem_cons.1 hd with rfl | hd
   · exact h1
   · exact declsC0 h2 d hd
theorem procsC0:∀{l:List TProc},(procsC l).tot=0→∀d ∈ l,(procC d).tot=0
 | [],_,d,hd=>by simp at hd
 | x::r,h,d,hd=>by
   unfold procsC at h
   obtain ⟨h1,h2⟩:=tot0 h
   rcases List.mem_cons.1 hd with rfl | hd
   · exact h1
   · exact procsC0 h2 d hd
theorem err0 {c:Cnt}:errC c=0↔c.tot=0:=by
 unfold errC Cnt.tot
 split
 · omega
 · split
   · omega
   · split<;>omega
end Go.Bw
end
section
namespace Go.Bw
open Go
set_option linter.unusedVariables false
set_option linter.unusedSimpArgs false
def putTok (s:Tx):Tok:=match Lib.atoiAll s with
 | .ok v=>⟨2,v,[]⟩
 | _=>if nameB s=true then ⟨1,0,s⟩ else ⟨3,0,s⟩
def okTok (t:Tok):Prop:=kindT t=true∧tokOk t=true
theorem cntN0:∀{l:List Tx},(cntN l).tot=0→∀s ∈ l,nameT s=true
 | [],_,s,hs=>by simp at hs
 | x::r,h,s,hs=>by
   unfold cntN at h
   obtain ⟨h1,h2⟩:=tot0 h
   rcases List.mem_cons.1 hs with rfl | hs
   · simpa using noteF0 h1
   · exact cntN0 h2 s hs
structure OkD (d:TDecl):Prop where
 name:nameT d.nm=true
 kind:d.kind=1∨d.kind=2∨d.kind=3
 n1:d.kind=1→0≤d.n∧d.n≤1099511627775
 n2:d.kind=2→d.n=0
 n3:d.kind=3→1≤d.n∧d.n≤32
structure OkP (p:TProc):Prop where
 name:nameT p.nm=true
 params:∀s ∈ p.params,nameT s=true
 locs:∀s ∈ p.locs,nameT s=true
 few:p.params.length≤3∧p.locs.length≤4
 body:(cntB p.body 1).tot=0
structure OkM (m:TMod):Prop where
 name:nameT m.nm=true
 uses:∀s ∈ m.uses,nameT s=true
 few:m.uses.length≤3∧m.decls.length≤10∧m.procs.length≤6
 decls:∀d ∈ m.decls,(declC d).tot=0
 procs:∀p ∈ m.procs,(procC p).tot=0
 main:(cntB m.main 1).tot=0
theorem okM {m:TMod} (h:(modC m).tot=0):OkM m:=by
 unfold modC at h
 obtain ⟨h,h6⟩:=tot0 h
 obtain ⟨h,h5⟩:=tot0 h
 obtain ⟨h,h4⟩:=tot0 h
 obtain ⟨h,h3⟩:=tot0 h
 obtain ⟨h1,h2⟩:=tot0 h
 have:=noteM0 h3
 simp at this
 exact ⟨cntN0 h1 m.nm (by simp),cntN0 h2,by omega,declsC0 h4,procsC0 h5,h6⟩
end Go.Bw
end
section
namespace Go.Bw
open Go
set_option linter.unusedVariables false
set_option linter.unusedSimpArgs false
abbrev Tk:=List Tok
def hasT (s:Tx):Tk→Option Tk
 | []=>none
 | t::r=>if (t.text==s)=true then some r else none
def AllOk (l:Tk):Prop:=∀t ∈ l,okTok t
def Eats (l:Tk) (ws:List Tx) (r:Tk):Prop:=AllOk l∧l=ws.map putTok++r
theorem Eats.ok {l r:Tk} {ws:List Tx} (h:Eats l ws r):AllOk r:=fun t ht=>h.1 t (by rw [h.2]; exact List.mem_append_right _ ht)
theorem Eats.trans {l r q:Tk} {a b:List Tx} (h:Eats l a r) (k:Eats r b q):Eats l (a++b) q:=⟨h.1,by rw [h.2,k.2]; simp⟩
theorem Eats.nil {l:Tk} (h:AllOk l):Eats l [] l:=⟨h,rfl⟩
end Go.Bw
end
section
namespace Go.Bw
open Go
set_option linter.unusedVariables false
set_option linter.unusedSimpArgs false
structure Stop (q:Tk):Prop where
 dot:hasT [46] q=none
 br:hasT [91] q=none
 pa:hasT [40] q=none
end Go.Bw
end
section
namespace Go.Bw
open Go
set_option linter.unusedVariables false
set_option linter.unusedSimpArgs false
theorem checkM_tot {m:TMod}:checkM m=0↔(modC m).tot=0:=err0
end Go.Bw
end
section
namespace Go.Proofs.Ytinnlppbkhhoiaa
open Go.Bw
set_option linter.unusedVariables false
set_option linter.unusedSimpArgs false
open Go.Proofs
theorem lex_cond (n:Nat) (u:Int):(((((n:Int)==0)||decide (8<(n:Int)))||decide (u<97))||decide (122<u)) = !((decide (1≤n)&&decide (n≤8))&&letterB u):=by
 rw [Bool.eq_iff_iff]
 simp [letterB]
 omega
theorem at0 {s:List UInt8} {i:Nat} (h:i<s.length):s[i]? = some (s[i]?.getD 0):=by rw [List.getElem?_eq_getElem h]; rfl
theorem all_no {s:List UInt8} {p:UInt8→Bool} {i:Nat} (h:i<s.length) (hp:p (s[i]?.getD 0)=false):s.all p=false:=by
 rw [List.all_eq_false]
 exact ⟨_,List.mem_of_getElem? (at0 h),by simp [hp]⟩
theorem all_yes {s:List UInt8} {p:UInt8→Bool} (h:∀i,i<s.length→p (s[i]?.getD 0)=true):s.all p=true:=by
 rw [List.all_eq_true]
 intro x hx
 obtain ⟨i,hi⟩:=List.getElem?_of_mem hx
 have:=h i (List.getElem?_eq_some_iff.1 hi).1
 rw [hi] at this
 exact this
theorem toNat_inj {u v:UInt8} (h:(u.toNat:Int)=(v.toNat:Int)):u=v:=UInt8.toNat_inj.1 (by omega)
theorem us9:Try.prog.underlying 9=some .string:=by kernel_rfl
theorem en86:Enters Try.prog 86:=enters_of Try.func86 (by kernel_rfl) rfl
theorem plain_char (u:Int) (w:World) :
   Calls Try.prog 86 #[.int .u8 u] w fun e w'=>e = .returned (.bool (letterB u||digitB u))∧Ext w w':=by
 refine enter Try.func86 rfl 17 rfl rfl ?_
 refine CWd (W':=Ws w [] [] []) (fun _ e=>by subst e; exact Ws.init (by simp)) ?_
 refine Cs (Cr ?_)
 refine V0 (Ya rfl) ?_
 refine Ln (Et (Cs (Cr ?_)))
 refine V0 (Ym rfl) ?_
 refine V0 (yl_ge rfl rfl) ?_
 refine V0 (Ym rfl) ?_
 apply WL.and 2 rfl rfl rfl rfl (.inl rfl) rfl rfl rfl rfl rfl
 ·
  intro hg0
  refine Lv (.g rfl rfl rfl) rfl (Ym rfl) ?_
  refine Lv (.g rfl rfl rfl) rfl (yl_le rfl rfl) ?_
  exact Gt 2 rfl rfl rfl
 refine V0 (Ym rfl) ?_
 apply WL.or 6 rfl rfl rfl rfl (.inl rfl) rfl rfl rfl rfl rfl
 ·
  intro hg1
  refine Lv (.g rfl rfl rfl) rfl (Ym rfl) ?_
  refine Lv (.g rfl rfl rfl) rfl (yl_ge rfl rfl) ?_
  refine Lv (.g rfl rfl rfl) rfl (Ym rfl) ?_
  apply WL.and 2 rfl rfl rfl rfl (.g rfl rfl rfl) rfl rfl rfl rfl rfl
  ·
   intro hg2
   refine Lv (.g rfl rfl rfl) rfl (Ym rfl) ?_
   refine Lv (.g rfl rfl rfl) rfl (yl_le rfl rfl) ?_
   exact Gt 2 rfl rfl rfl
  exact Gt 4 rfl rfl rfl
 refine V0 (Ya rfl) ?_
 refine Ln (Et (Crt ?_))
 refine WE.ret1 rfl rfl fun w' hw=>?_
 exact ⟨rfl,hw.fr⟩
theorem lexName_any (s:List UInt8) (w:World) :
   Calls Try.prog 76 #[st s] w fun e w'=>e = .returned (.bool (nameB s))∧Ext w w':=by
 refine enter Try.func76 rfl 33 rfl rfl ?_
 refine CWd (W':=Ws w [] [] []) (fun _ e=>by subst e; exact Ws.init (by simp)) ?_
 refine Cs (Cr ?_)
 refine V0 (Ya rfl) ?_
 refine Ln (Et (Cs (Cs (Cr ?_))))
 refine V0 (Ym rfl) ?_
 refine V0 (yl_lens us9 rfl) ?_
 refine V0 (yl_eq rfl rfl) ?_
 refine V0 (Ym rfl) ?_
 apply WL.or 3 rfl rfl rfl rfl (.inl rfl) rfl rfl rfl rfl rfl
 ·
  intro hg0
  refine Lv (.g rfl rfl rfl) rfl (Ym rfl) ?_
  refine Lv (.g rfl rfl rfl) rfl (yl_lens us9 rfl) ?_
  refine Lv (.g rfl rfl rfl) rfl (yl_gt rfl rfl) ?_
  exact Gt 3 rfl rfl rfl
 refine V0 (Ym rfl) ?_
 apply WL.or 3 rfl rfl rfl rfl (.inl rfl) rfl rfl rfl rfl rfl
 ·
  intro hg1
  have h0:0<s.length:=by
    rcases Nat.eq_zero_or_pos s.length with h | h
    · simp [h] at hg1
    · exact h
  have hu0:=at0 h0
  refine Lv (.g rfl rfl rfl) rfl (Ym rfl) ?_
  refine Lv (.g rfl rfl rfl) rfl (yl_idxk us9 rfl rfl (by assumption)) ?_
  refine Lv (.g rfl rfl rfl) rfl (yl_lt rfl rfl) ?_
  exact Gt 3 rfl rfl rfl
 refine V0 (Ym rfl) ?_
 apply WL.or 3 rfl rfl rfl rfl (.inl rfl) rfl rfl rfl rfl rfl
 ·
  intro hg2
  have h0:0<s.length:=by
    rcases Nat.eq_zero_or_pos s.length with h | h
    · simp [h] at hg2
    · exact h
  have hu0:=at0 h0
  refine Lv (.g rfl rfl rfl) rfl (Ym rfl) ?_
  refine Lv (.g rfl rfl rfl) rfl (yl_idxk us9 rfl rfl hu0) ?_
  refine Lv (.g rfl rfl rfl) rfl (yl_gt rfl rfl) ?_
  exact Gt 3 rfl rfl rfl
 refine Ln (Et ?_)
 refine Cc rfl (fun hc0=>?_) (fun hc0=>?_)
 ·
  rw [lex_cond] at hc0
  have hn:nameB s=false:=by
    unfold nameB
    simp only [Bool.not_eq_true'] at hc0
    rw [hc0]; rfl
  refine Cs (Cr ?_)
  refine V0 (Ya rfl) ?_
  refine Ln (Et (Crt (Er ?_)))
  refine WE.ret1 rfl rfl fun w' hw=>?_
  exact ⟨by rw [hn],hw.fr⟩
 ·
  rw [lex_cond] at hc0
  have hok:((decide (1≤s.length)&&decide (s.length≤8))&&letterB ((s[0]?.getD 0).toNat))=true:=by simpa using hc0
  have h8:s.length≤8:=by simp at hok; omega
  refine Ck (Et (Cs (Cs (Cr ?_))))
  refine V0 (Ym rfl) ?_
  refine V0 (yl_lens us9 rfl) ?_
  refine V0 (Ym rfl) ?_
  refine Ln (Et (Cb ?_))
  refine CW (ι:=Nat) (fun i=>[(24,.int .i64 (i:Int))]) [(0,_),(23,_)] (fun i=>i≤s.length∧∀j,j<i→charB (s[j]?.getD 0)=true) (fun i=>s.length-i) 0 ⟨Nat.zero_le _,by simp⟩ (sc rfl (sc rfl (sc rfl sn))) ?_
  intro i ⟨hi,hall⟩
  refine Cs (Cr ?_)
  refine V0 (yl_lt rfl rfl) ?_
  refine Ln (Et (Cs ?_))
  refine Cc rfl (fun hc1=>?_) (fun hc1=>?_)
  ·
   have hlt:i<s.length:=by simpa using hc1
   have hui:=at0 hlt
   refine Ck (Et (Cs (Cb (Cs (Cr ?_)))))
   refine V0 (Ym rfl) ?_
   refine V0 (Ya rfl) ?_
   refine Ln (Et (Cs (Cr ?_)))
   refine V0 (Ym rfl) ?_
   refine V0 (Ym rfl) ?_
   refine V0 (yl_idxk us9 rfl rfl hui) ?_
   refine Lp (.inl rfl) rfl en86 rfl (fun w hw=>plain_char _ w) ?_
   refine V0 (yl_not rfl) ?_
   refine Ln (Et ?_)
   refine Cc rfl (fun hc2=>?_) (fun hc2=>?_)
   ·
    have hch:charB (s[i]?.getD 0)=false:=by unfold charB; revert hc2; cases letterB _<;>cases digitB _<;>simp
    refine Cs (Cr ?_)
    refine V0 (Ya rfl) ?_
    refine Ln (Et (Crt (Ebr (Er (Er ?_)))))
    refine Ebr (Er ?_)
    refine WE.ret1 rfl rfl fun w' hw=>?_
    exact ⟨by unfold nameB; rw [all_no hlt hch]; simp,hw.fr⟩
   ·
    have hch:charB (s[i]?.getD 0)=true:=by unfold charB; revert hc2; cases letterB _<;>cases digitB _<;>simp
    refine Ck (Eb (Et (Cr ?_)))
    refine V0 (Yi rfl rfl rfl (by omega)) ?_
    refine V0 (Ym rfl) ?_
    refine Ln ?_
    exact Ea (i+1) (by omega) ⟨by omega,fun j hj=>by rcases Nat.lt_succ_iff_lt_or_eq.1 hj with h | rfl; exact hall j h; exact hch⟩ (sc rfl (sc rfl (sc rfl sn))) (fun _ h=>h)
  ·
   have hge:¬i<s.length:=by simpa using hc1
   refine Ce (Ex (Ex (Ebh (Et (Cs ?_)))))
   refine Cr ?_
   refine V0 (Ya rfl) ?_
   refine Ln (Et (Crt ?_))
   refine WE.ret1 rfl rfl fun w' hw=>?_
   exact ⟨by unfold nameB; rw [all_yes fun j hj=>hall j (by omega),hok]; rfl,hw.fr⟩
end Go.Proofs.Ytinnlppbkhhoiaa
end
section
namespace Go.Proofs.Ytinnlppbkhhoiaa
open Go.Bw
set_option linter.unusedVariables false
set_option linter.unusedSimpArgs false
theorem take_snoc {α:Type} {l:List α} {i:Nat} {x:α} (h:l[i]? = some x):l.take (i+1)=l.take i++[x]:=by rw [List.take_add_one,h]; rfl
end Go.Proofs.Ytinnlppbkhhoiaa
end
section
namespace Go.Proofs.Ytinnlppbkhhoiaa
open Go.Bw
set_option linter.unusedVariables false
set_option linter.unusedSimpArgs false
abbrev kI:Int→Value:=fun n:Int=>Value.int .i64 n
def vS (r:Bool) (a:Int):Value:=.agg #[.bool r,.int .i64 a]
def exprsK (n:Nat):List (GEnt Int):=[(1,vS false 0,0),(2,vS false 0,1),(3,vS true 0,2),(4,vS true 1,3),(5,vS true (-1),4),(6,vS false 1,5)]++(List.range n).map fun j=>(((7+j:Nat):Int),vS false 2,6+j)
def stmtsK:List (GEnt Int):=[(1,vS true 1,0),(2,vS true 2,1),(3,vS true (-1),2),(4,vS false 1,3),(5,vS false 1,4),(6,vS false 1,5),(7,vS false 1,6)]
theorem exprs_step (n:Nat) (h:n<9):gobj kI (gput ((7+n:Nat):Int) (vS false 2) (exprsK n) (6+n)) (gclock ((7+n:Nat):Int) (exprsK n) (6+n))=gobj kI (exprsK (n+1)) (6+(n+1)):=by
 match n,h with
 | 0,_=>rfl
 | 1,_=>rfl
 | 2,_=>rfl
 | 3,_=>rfl
 | 4,_=>rfl
 | 5,_=>rfl
 | 6,_=>rfl
 | 7,_=>rfl
 | 8,_=>rfl
theorem exprs_get (op:Int):gget op (exprsK 9) (vS false 0)=vS ((shE op).getD (false,0)).1 ((shE op).getD (false,0)).2∧ghas op (exprsK 9) = !(shE op).isNone:=by
 by_cases h1:op=1
 · subst h1; exact ⟨rfl,rfl⟩
 by_cases h2:op=2
 · subst h2; exact ⟨rfl,rfl⟩
 by_cases h3:op=3
 · subst h3; exact ⟨rfl,rfl⟩
 by_cases h4:op=4
 · subst h4; exact ⟨rfl,rfl⟩
 by_cases h5:op=5
 · subst h5; exact ⟨rfl,rfl⟩
 by_cases h6:op=6
 · subst h6; exact ⟨rfl,rfl⟩
 by_cases h7:op=7
 · subst h7; exact ⟨rfl,rfl⟩
 by_cases h8:op=8
 · subst h8; exact ⟨rfl,rfl⟩
 by_cases h9:op=9
 · subst h9; exact ⟨rfl,rfl⟩
 by_cases h10:op=10
 · subst h10; exact ⟨rfl,rfl⟩
 by_cases h11:op=11
 · subst h11; exact ⟨rfl,rfl⟩
 by_cases h12:op=12
 · subst h12; exact ⟨rfl,rfl⟩
 by_cases h13:op=13
 · subst h13; exact ⟨rfl,rfl⟩
 by_cases h14:op=14
 · subst h14; exact ⟨rfl,rfl⟩
 by_cases h15:op=15
 · subst h15; exact ⟨rfl,rfl⟩
 have hn:shE op=none:=by
   unfold shE
   rw [if_neg (by omega),if_neg h3,if_neg h4,if_neg h5,if_neg h6,if_neg (by omega)]
 have hf:gfind op (exprsK 9) 0=none:=by
   show gfind op [(1,vS false 0,0),(2,vS false 0,1),(3,vS true 0,2),(4,vS true 1,3),(5,vS true (-1),4),(6,vS false 1,5),(7,vS false 2,6),(8,vS false 2,7),(9,vS false 2,8),(10,vS false 2,9),(11,vS false 2,10),(12,vS false 2,11),(13,vS false 2,12),(14,vS false 2,13),(15,vS false 2,14)] 0=none
   simp [gfind,h1,h2,h3,h4,h5,h6,h7,h8,h9,h10,h11,h12,h13,h14,h15]
 rw [gget,ghas,hf,hn]
 exact ⟨rfl,rfl⟩
theorem stmts_get (op:Int):gget op stmtsK (vS false 0)=vS ((shS op).getD (false,0)).1 ((shS op).getD (false,0)).2∧ghas op stmtsK = !(shS op).isNone:=by
 by_cases h1:op=1
 · subst h1; exact ⟨rfl,rfl⟩
 by_cases h2:op=2
 · subst h2; exact ⟨rfl,rfl⟩
 by_cases h3:op=3
 · subst h3; exact ⟨rfl,rfl⟩
 by_cases h4:op=4
 · subst h4; exact ⟨rfl,rfl⟩
 by_cases h5:op=5
 · subst h5; exact ⟨rfl,rfl⟩
 by_cases h6:op=6
 · subst h6; exact ⟨rfl,rfl⟩
 by_cases h7:op=7
 · subst h7; exact ⟨rfl,rfl⟩
 have hn:shS op=none:=by
   unfold shS
   rw [if_neg h1,if_neg h2,if_neg h3,if_neg (by omega)]
 have hf:gfind op stmtsK 0=none:=by simp [stmtsK,gfind,h1,h2,h3,h4,h5,h6,h7]
 rw [gget,ghas,hf,hn]
 exact ⟨rfl,rfl⟩
theorem cntN_app:∀a b:List Tx,cntN (a++b)=cntN a+cntN b
 | [],b=>by apply Cnt.ext'<;>simp [Cnt.add_f,Cnt.add_m,Cnt.add_k,cntN,c0]
 | x::a,b=>by
   rw [List.cons_append,show ∀q,cntN (x::q)=noteF (!nameT x)+cntN q from fun _=>rfl,cntN_app a b,show ∀q,cntN (x::q)=noteF (!nameT x)+cntN q from fun _=>rfl,Cnt.add_assoc']
theorem cntN_one (s:Tx):cntN [s]=noteF (!nameT s):=rfl
theorem cntN_take {l:List Tx} {i:Nat} {s:Tx} (h:l[i]? = some s):cntN (l.take (i+1))=cntN (l.take i)+noteF (!nameT s):=by rw [take_snoc h,cntN_app,cntN_one]
theorem add_c0 (c:Cnt):c+c0=c:=rfl
theorem tot_f (c:Cnt):c.f≤c.tot:=by unfold Cnt.tot; omega
theorem tot_m (c:Cnt):c.m≤c.tot:=by unfold Cnt.tot; omega
theorem tot_k (c:Cnt):c.k≤c.tot:=by unfold Cnt.tot; omega
theorem el27:EltOk Try.prog 27 9 (st []) 1 16:=eltOk_of (by kernel_rfl)
theorem es27:elemSz Try.prog 27=some 1:=by kernel_rfl
theorem na9:nonAgg Try.prog 9=true:=by kernel_rfl
theorem en87:Enters Try.prog 87:=enters_of Try.func87 (by kernel_rfl) rfl
theorem en76:Enters Try.prog 76:=enters_of Try.func76 (by kernel_rfl) rfl
theorem en78:Enters Try.prog 78:=enters_of Try.func78 (by kernel_rfl) rfl
theorem en77:Enters Try.prog 77:=enters_of Try.func77 (by kernel_rfl) rfl
theorem ui3:Try.prog.underlying 3=some (.int .i64):=by kernel_rfl
theorem pl101:placesP Try.prog 101=some [(0,1),(1,1)]:=by kernel_rfl
theorem zr101:zeroOf Try.prog 101=some (.agg #[.bool false,.int .i64 0]):=by kernel_rfl
theorem um72:Try.prog.underlying 72=some (.map 3 101):=by kernel_rfl
theorem mixed:Try.prog.follows .mixedOrders=true:=by kernel_rfl
theorem fo76_0:fieldOff Try.prog 76 0=some 0:=by kernel_rfl
theorem ar74:arrP Try.prog 74=some (10,1):=by kernel_rfl
theorem na3:nonAgg Try.prog 3=true:=by kernel_rfl
theorem sz3:sizeP Try.prog 3=some 1:=by kernel_rfl
theorem reserved_any (w:World) :
   Calls Try.prog 78 #[] w fun e w'=>∃r:Option Addr×Nat,e = .returned (.slice r.1 wordsL.length r.2)∧Ext w w'∧Sl rdStr 1 (nv w w') r.1 r.2 wordsL:=by
 refine enter Try.func78 rfl 2 rfl rfl ?_
 refine CWd (W':=Ws w [] [] []) (fun _ e=>by subst e; exact Ws.init (by simp)) ?_
 refine Cs (Cr ?_)
 refine V0 (Ya rfl) ?_
 refine Ln (Et (Cs (Cr ?_)))
 refine Lb (.inl rfl) rfl el27 rfl rfl rfl rfl fun b1=>?_
 refine V0 (Ya rfl) ?_
 refine Ln (Et (Crt ?_))
 refine WE.retR (rs_1 rfl (rv_tmp rfl)) fun w' hw=>?_
 exact ⟨(some ⟨b1,0,none⟩,15),rfl,hw.fr,⟨show wordsL.length≤15 by decide,show 15≤9223372036854775807 by decide,by simp,fun j x hj=>⟨b1,0,rfl,fun k v hk=>hw.nvc 0 rfl (by
     have:k<1:=(List.getElem?_eq_some_iff.1 hk).1
     show (wordsL.flatMap strC)[0+j*1+k]? = some v
     rw [Nat.zero_add,flat_get strC_len hj this]; exact hk)⟩⟩⟩
theorem indexS_any (H:View) (a:Option Addr) (c:Nat) (l:List Tx) (s:Tx) (w:World) (hH:Le H w) (hm:Sl rdStr 1 H a c l) :
   Calls Try.prog 87 #[.slice a l.length c,st s] w fun e w'=>(∃n:Int,e = .returned (.int .i64 n)∧decide (0≤n)=l.contains s)∧Ext w w':=by
 have hcap:=hm.cap
 have hmax:=hm.max
 refine enter Try.func87 rfl 19 rfl rfl ?_
 refine CWd (W':=Ws w [] [] [H]) (fun _ e=>by subst e; exact Ws.init (by simp [hH])) ?_
 refine Cs (Cr ?_)
 refine V0 (Ya rfl) ?_
 refine Ln (Et (Cs (Cs (Cr ?_))))
 refine V0 (Ym rfl) ?_
 refine V0 (Yn es27 rfl) ?_
 refine V0 (Ym rfl) ?_
 refine Ln (Et (Cb ?_))
 refine CW (ι:=Nat) (fun i=>[(8,.int .i64 (i:Int))]) [(0,_),(1,_),(7,_)] (fun i=>i≤l.length∧∀j,j<i→l[j]?≠some s) (fun i=>l.length-i) 0 ⟨Nat.zero_le _,by simp⟩ (sc rfl (sc rfl (sc rfl (sc rfl sn)))) ?_
 intro i ⟨hi,hall⟩
 refine Cs (Cr ?_)
 refine V0 (yl_lt rfl rfl) ?_
 refine Ln (Et (Cs ?_))
 refine Cc rfl (fun hc0=>?_) (fun hc0=>?_)
 ·
  have hlt:i<l.length:=by simpa using hc0
  obtain ⟨x,hxi⟩:∃x,l[i]? = some x:=⟨_,List.getElem?_eq_getElem hlt⟩
  obtain ⟨pbx,pox,ha,hrow⟩:=hm.elt i x hxi
  have hrow:RdC H pbx (pox+i*1) (strC x):=hrow
  refine Ck (Et (Cs (Cb (Cs (Cr ?_)))))
  refine V0 (Ym rfl) ?_
  refine V0 (Ya rfl) ?_
  refine Ln (Et (Cs (Cr ?_)))
  refine V0 (Ym rfl) ?_
  refine V0 (Ym rfl) ?_
  refine V0 (Ym rfl) ?_
  refine V0 (Yo es27 rfl rfl (by assumption) (by omega)) ?_
  refine V0 (yl_ld 0 na9 rfl rfl (hrow 0 _ rfl)) ?_
  refine V0 (yl_eqs rfl rfl) ?_
  refine Ln (Et ?_)
  refine Cc rfl (fun hc1=>?_) (fun hc1=>?_)
  ·
   have heq:s=x:=by simpa using hc1
   refine Cs (Cr ?_)
   refine V0 (Ym rfl) ?_
   refine V0 (Ya rfl) ?_
   refine Ln (Et (Crt (Ebr (Er (Er ?_)))))
   refine Ebr (Er ?_)
   refine WE.ret1 rfl rfl fun w' hw=>?_
   refine ⟨⟨_,rfl,?_⟩,hw.fr⟩
   rw [decide_eq_true (by omega),List.contains_iff_mem.2 (by rw [heq]; exact List.mem_of_getElem? hxi)]
  ·
   have hne:¬s=x:=by simpa using hc1
   refine Ck (Eb (Et (Cr ?_)))
   refine V0 (Yi rfl rfl rfl (by omega)) ?_
   refine V0 (Ym rfl) ?_
   refine Ln ?_
   exact Ea (i+1) (by omega) ⟨by omega,fun j hj=>by rcases Nat.lt_succ_iff_lt_or_eq.1 hj with h | rfl; exact hall j h; rw [hxi]; intro e; injection e with e; exact hne e.symm⟩ (sc rfl (sc rfl (sc rfl (sc rfl sn)))) (fun _ h=>h)
 ·
  have hge:¬i<l.length:=by simpa using hc0
  have hno:l.contains s=false:=by
    rw [Bool.eq_false_iff]
    intro h
    rw [List.contains_iff_mem] at h
    obtain ⟨j,hj⟩:=List.getElem?_of_mem h
    exact hall j (by have:=(List.getElem?_eq_some_iff.1 hj).1; omega) hj
  refine Ce (Ex (Ex (Ebh (Et (Cs ?_)))))
  refine Cr ?_
  refine V0 (Ya rfl) ?_
  refine Ln (Et (Crt ?_))
  refine WE.ret1 rfl rfl fun w' hw=>?_
  refine ⟨⟨_,rfl,?_⟩,hw.fr⟩
  rw [hno]; rfl
theorem containsS_any (H:View) (a:Option Addr) (c:Nat) (l:List Tx) (s:Tx) (w:World) (hH:Le H w) (hm:Sl rdStr 1 H a c l) :
   Calls Try.prog 77 #[.slice a l.length c,st s] w fun e w'=>e = .returned (.bool (l.contains s))∧Ext w w':=by
 refine enter Try.func77 rfl 9 rfl rfl ?_
 refine CWd (W':=Ws w [] [] [H]) (fun _ e=>by subst e; exact Ws.init (by simp [hH])) ?_
 refine Cs (Cr ?_)
 refine V0 (Ya rfl) ?_
 refine Ln (Et (Cs (Cr ?_)))
 refine V0 (Ym rfl) ?_
 refine V0 (Ym rfl) ?_
 refine Ld (.inl rfl) rfl en87 rfl (fun n:Int=>.int .i64 n) (fun _ n=>decide (0≤n)=l.contains s) (fun w hw=>(indexS_any H a c l s w (hw.vs _ (by simp)) hm).mono fun e w' h=>by
     obtain ⟨⟨n,h1,h2⟩,h3⟩:=h
     exact ⟨n,h1,h3,h2⟩) ?_
 intro F7 n7 hf7 h7
 refine V0 (yl_ge rfl rfl) ?_
 refine V0 (Ya rfl) ?_
 refine Ln (Et (Crt ?_))
 refine WE.ret1 rfl rfl fun w' hw=>?_
 exact ⟨by rw [h7],hw.fr⟩
theorem treeName_any (s:Tx) (w:World) :
   Calls Try.prog 56 #[st s] w fun e w'=>e = .returned (.bool (nameT s))∧Ext w w':=by
 refine enter Try.func56 rfl 11 rfl rfl ?_
 refine CWd (W':=Ws w [] [] []) (fun _ e=>by subst e; exact Ws.init (by simp)) ?_
 refine Cs (Cr ?_)
 refine V0 (Ya rfl) ?_
 refine Ln (Et (Cs (Cr ?_)))
 refine V0 (Ym rfl) ?_
 refine Lp (.inl rfl) rfl en76 rfl (fun w hw=>lexName_any _ w) ?_
 refine V0 (Ym rfl) ?_
 apply WL.and 4 rfl rfl rfl rfl (.inl rfl) rfl rfl rfl rfl rfl
 ·
  intro hg0
  refine Ld (.g rfl rfl rfl) rfl en78 rfl (fun r:Option Addr×Nat=>.slice r.1 wordsL.length r.2) (fun H r=>Sl rdStr 1 H r.1 r.2 wordsL) (fun w hw=>reserved_any w) ?_
  intro F6 r6 hf6 h6
  refine Lv (.g rfl rfl rfl) rfl (Ym rfl) ?_
  refine Lp (.g rfl rfl rfl) rfl en77 rfl (fun w hw=>containsS_any F6 r6.1 r6.2 wordsL s w (hw.vs _ (by simp)) h6) ?_
  refine Lv (.g rfl rfl rfl) rfl (yl_not rfl) ?_
  refine WL.wk ?_ (Gt 4 rfl rfl rfl)
  exact fun _ h=>Ws.drops (h) (fun _ hm=>List.mem_append_right [_] hm)
 refine V0 (Ya rfl) ?_
 refine Ln (Et (Crt ?_))
 refine WE.ret1 rfl rfl fun w' hw=>?_
 exact ⟨rfl,hw.fr⟩
theorem exprs_any (w:World) :
   Calls Try.prog 37 #[] w fun e w'=>∃b:Nat,e = .returned (.map (some b))∧Ws w [] [blk b (gobj kI (exprsK 9) 15)] [] w':=by
 refine enter Try.func37 rfl 19 rfl rfl ?_
 refine CWd (W':=Ws w [] [] []) (fun _ e=>by subst e; exact Ws.init (by simp)) ?_
 refine Cs (Cr ?_)
 refine V0 (Ya rfl) ?_
 refine Ln (Et (Cs (Cr ?_)))
 refine WL.gmk (fun n:Int=>Value.int .i64 n) (.inl rfl) rfl fun b3=>?_
 refine V0 (Yb zr101 pl101 rfl rfl) ?_
 refine WL.gins 0 keyInt (.inl rfl) um72 ui3 rfl rfl rfl rfl ?_
 refine V0 (Yb zr101 pl101 rfl rfl) ?_
 refine WL.gins 0 keyInt (.inl rfl) um72 ui3 rfl rfl rfl rfl ?_
 refine V0 (Yb zr101 pl101 rfl rfl) ?_
 refine WL.gins 0 keyInt (.inl rfl) um72 ui3 rfl rfl rfl rfl ?_
 refine V0 (Yb zr101 pl101 rfl rfl) ?_
 refine WL.gins 0 keyInt (.inl rfl) um72 ui3 rfl rfl rfl rfl ?_
 refine V0 (Yb zr101 pl101 rfl rfl) ?_
 refine WL.gins 0 keyInt (.inl rfl) um72 ui3 rfl rfl rfl rfl ?_
 refine V0 (Yb zr101 pl101 rfl rfl) ?_
 refine WL.gins 0 keyInt (.inl rfl) um72 ui3 rfl rfl rfl rfl ?_
 refine V0 (Ym rfl) ?_
 refine Lrb 0 (gobj kI (exprsK 0) (6+0)) rfl rfl ?_
 refine V0 (Ya rfl) ?_
 refine Ln (Et (Cs (Cs (Cr ?_))))
 refine V0 (Ya rfl) ?_
 refine Ln (Et (Cb ?_))
 refine CK (ι:=Nat) (fun i=>[(2,.int .i64 ((7+i:Nat):Int))]) [(0,_),(1,_)] (fun i=>Ws w [] [blk b3 (gobj kI (exprsK i) (6+i))] []) (fun i=>i≤9) (fun i=>9-i) 0 (Nat.zero_le _) (sc rfl (sc rfl (sc rfl sn))) (fun _ h=>h) ?_
 intro i hi
 refine Cs (Cs (Cr ?_))
 refine V0 (Ym rfl) ?_
 refine V0 (yl_le rfl rfl) ?_
 refine Ln (Et ?_)
 refine Cc rfl (fun hc0=>?_) (fun hc0=>?_)
 ·
  have hlt:i<9:=by simp at hc0; omega
  refine Ck (Et (Cs (Cb (Cr ?_))))
  refine V0 (Ym rfl) ?_
  refine V0 (Ym rfl) ?_
  refine V0 (Yb zr101 pl101 rfl rfl) ?_
  refine WL.gset 0 keyInt (.inl rfl) um72 ui3 rfl rfl rfl rfl ?_
  refine Ln (Eb (Et (Cr ?_)))
  refine V0 (Ym rfl) ?_
  refine V0 (yl_addv (((7+i:Nat):Int)+1) rfl rfl rfl (by omega)) ?_
  refine V0 (Ya rfl) ?_
  refine Ln ?_
  rw [show (((7+i:Nat):Int)+1)=((7+(i+1):Nat):Int) by omega]
  exact Ea (i+1) (by omega) (by omega) (sc rfl (sc rfl (sc rfl sn))) (fun _ h=>by
    have h:=Ws.reL h 0 rfl (congrArg (blk b3) (exprs_step i hlt))
    exact h)
 ·
  have hie:i=9:=by simp at hc0; omega
  subst hie
  refine Ce (Ex (Ex (Ebh (Et (Cs ?_)))))
  refine Cr ?_
  refine V0 (Ym rfl) ?_
  refine V0 (Ya rfl) ?_
  refine Ln (Et (Crt ?_))
  refine WE.retR (rs_1 rfl (rv_tmp rfl)) fun w' hw=>?_
  exact ⟨b3,rfl,hw⟩
theorem stmts_any (w:World) :
   Calls Try.prog 38 #[] w fun e w'=>∃b:Nat,e = .returned (.map (some b))∧Ws w [] [blk b (gobj kI stmtsK 7)] [] w':=by
 refine enter Try.func38 rfl 10 rfl rfl ?_
 refine CWd (W':=Ws w [] [] []) (fun _ e=>by subst e; exact Ws.init (by simp)) ?_
 refine Cs (Cr ?_)
 refine V0 (Ya rfl) ?_
 refine Ln (Et (Cs (Cr ?_)))
 refine WL.gmk (fun n:Int=>Value.int .i64 n) (.inl rfl) rfl fun b1=>?_
 refine V0 (Yb zr101 pl101 rfl rfl) ?_
 refine WL.gins 0 keyInt (.inl rfl) um72 ui3 rfl rfl rfl rfl ?_
 refine V0 (Yb zr101 pl101 rfl rfl) ?_
 refine WL.gins 0 keyInt (.inl rfl) um72 ui3 rfl rfl rfl rfl ?_
 refine V0 (Yb zr101 pl101 rfl rfl) ?_
 refine WL.gins 0 keyInt (.inl rfl) um72 ui3 rfl rfl rfl rfl ?_
 refine V0 (Yb zr101 pl101 rfl rfl) ?_
 refine WL.gins 0 keyInt (.inl rfl) um72 ui3 rfl rfl rfl rfl ?_
 refine V0 (Yb zr101 pl101 rfl rfl) ?_
 refine WL.gins 0 keyInt (.inl rfl) um72 ui3 rfl rfl rfl rfl ?_
 refine V0 (Yb zr101 pl101 rfl rfl) ?_
 refine WL.gins 0 keyInt (.inl rfl) um72 ui3 rfl rfl rfl rfl ?_
 refine V0 (Yb zr101 pl101 rfl rfl) ?_
 refine WL.gins 0 keyInt (.inl rfl) um72 ui3 rfl rfl rfl rfl ?_
 refine V0 (Ym rfl) ?_
 refine V0 (Ya rfl) ?_
 refine Ln (Et (Crt ?_))
 refine WE.retR (rs_1 rfl (rv_tmp rfl)) fun w' hw=>?_
 exact ⟨b1,rfl,hw⟩
theorem note1_any (vb be bs:Nat) (c:Cnt) (b:Bool) (w:World) (hb:c.tot≤4611686018427387904) (hw:Ws w [vb] [blk vb (.cells #[.int .i64 0,.int .i64 ((c).f:Int),.int .i64 ((c).m:Int),.int .i64 0,.int .i64 ((c).k:Int),.int .i64 0,.int .i64 0,.int .i64 0,.int .i64 0,.int .i64 0,.map (some be),.map (some bs)] 76 (0,0))] [] w) :
   Calls Try.prog 40 #[.pointer (some ⟨vb,0,none⟩),.bool b,.int .i64 1] w fun e w'=>e = .returned (.tuple #[])∧Ws w [vb] [blk vb (.cells #[.int .i64 0,.int .i64 ((c+noteF b).f:Int),.int .i64 ((c+noteF b).m:Int),.int .i64 0,.int .i64 ((c+noteF b).k:Int),.int .i64 0,.int .i64 0,.int .i64 0,.int .i64 0,.int .i64 0,.map (some be),.map (some bs)] 76 (0,0))] [] w':=by
 have hf:=tot_f c
 refine enter Try.func40 rfl 17 rfl rfl ?_
 refine CWd (W':=Ws w [vb] [blk vb (.cells #[.int .i64 0,.int .i64 ((c).f:Int),.int .i64 ((c).m:Int),.int .i64 0,.int .i64 ((c).k:Int),.int .i64 0,.int .i64 0,.int .i64 0,.int .i64 0,.int .i64 0,.map (some be),.map (some bs)] 76 (0,0))] []) (fun _ e=>by subst e; exact hw) ?_
 refine Cs (Cr ?_)
 refine V0 (Ym rfl) ?_
 refine Ln (Et ?_)
 refine Cc rfl (fun hc0=>?_) (fun hc0=>?_)
 ·
  subst hc0
  refine WC.draws1 0 [(0,true),(1,true),(2,true),(3,true),(4,true),(7,true),(8,true),(5,false),(6,true),(9,true),(10,false)] mixed (by kernel_rfl) (fun _ _ _ d _ h=>by cases d<;>exact h) ?_
  refine Dq rfl (.inl rfl) rfl (fun _ h=>by have h:=Ws.out 0 h; exact h) (Ym rfl) ?_
  refine Dq rfl (.inl rfl) rfl (fun _ h=>by have h:=Ws.out 0 h; exact h) (Ym rfl) ?_
  refine Dq rfl (.inl rfl) rfl (fun _ h=>by have h:=Ws.out 0 h; exact h) (yl_nil rfl) ?_
  refine Dq rfl (.inl rfl) rfl (fun _ h=>by have h:=Ws.out 0 h; exact h) (Yf fo76_0 rfl) ?_
  refine Dq rfl (.inl rfl) rfl (fun _ h=>by have h:=Ws.out 0 h; exact h) (yl_iar (i:=1) ar74 rfl rfl (by decide)) ?_
  refine Dq rfl (.inl rfl) rfl (fun _ h=>by have h:=Ws.out 0 h; exact h) (yl_nil rfl) ?_
  refine Dq rfl (.inl rfl) rfl (fun _ h=>by have h:=Ws.out 0 h; exact h) (Yf fo76_0 rfl) ?_
  refine De rfl (fun _ h=>by have h:=Ws.out 0 h; exact h) ?_
  refine V0 (Yd 0 rfl rfl rfl na3) ?_
  refine Ln (Ed ?_)
  refine Dq rfl (.inl rfl) rfl (fun _ h=>by have h:=Ws.out 0 h; exact h) (Yi rfl rfl rfl (by omega)) ?_
  refine Dq rfl (.inl rfl) rfl (fun _ h=>by have h:=Ws.out 0 h; exact h) (yl_iar (i:=1) ar74 rfl rfl (by decide)) ?_
  refine De rfl (fun _ h=>by have h:=Ws.out 0 h; exact h) ?_
  refine Lst 0 (.inl rfl) rfl rfl rfl sz3 rfl rfl rfl ?_
  refine Ln (Ed ?_)
  refine WD.nil (fun _ h=>by have h:=Ws.out 0 h; exact h) ?_
  refine WE.end0 rfl fun w' hw=>?_
  exact ⟨rfl,hw⟩
 ·
  subst hc0
  refine Ck ?_
  refine WE.end0 rfl fun w' hw=>?_
  exact ⟨rfl,hw⟩
theorem note2_any (vb be bs:Nat) (c:Cnt) (b:Bool) (w:World) (hb:c.tot≤4611686018427387904) (hw:Ws w [vb] [blk vb (.cells #[.int .i64 0,.int .i64 ((c).f:Int),.int .i64 ((c).m:Int),.int .i64 0,.int .i64 ((c).k:Int),.int .i64 0,.int .i64 0,.int .i64 0,.int .i64 0,.int .i64 0,.map (some be),.map (some bs)] 76 (0,0))] [] w) :
   Calls Try.prog 40 #[.pointer (some ⟨vb,0,none⟩),.bool b,.int .i64 2] w fun e w'=>e = .returned (.tuple #[])∧Ws w [vb] [blk vb (.cells #[.int .i64 0,.int .i64 ((c+noteM b).f:Int),.int .i64 ((c+noteM b).m:Int),.int .i64 0,.int .i64 ((c+noteM b).k:Int),.int .i64 0,.int .i64 0,.int .i64 0,.int .i64 0,.int .i64 0,.map (some be),.map (some bs)] 76 (0,0))] [] w':=by
 have hm:=tot_m c
 refine enter Try.func40 rfl 17 rfl rfl ?_
 refine CWd (W':=Ws w [vb] [blk vb (.cells #[.int .i64 0,.int .i64 ((c).f:Int),.int .i64 ((c).m:Int),.int .i64 0,.int .i64 ((c).k:Int),.int .i64 0,.int .i64 0,.int .i64 0,.int .i64 0,.int .i64 0,.map (some be),.map (some bs)] 76 (0,0))] []) (fun _ e=>by subst e; exact hw) ?_
 refine Cs (Cr ?_)
 refine V0 (Ym rfl) ?_
 refine Ln (Et ?_)
 refine Cc rfl (fun hc0=>?_) (fun hc0=>?_)
 ·
  subst hc0
  refine WC.draws1 0 [(0,true),(1,true),(2,true),(3,true),(4,true),(7,true),(8,true),(5,false),(6,true),(9,true),(10,false)] mixed (by kernel_rfl) (fun _ _ _ d _ h=>by cases d<;>exact h) ?_
  refine Dq rfl (.inl rfl) rfl (fun _ h=>by have h:=Ws.out 0 h; exact h) (Ym rfl) ?_
  refine Dq rfl (.inl rfl) rfl (fun _ h=>by have h:=Ws.out 0 h; exact h) (Ym rfl) ?_
  refine Dq rfl (.inl rfl) rfl (fun _ h=>by have h:=Ws.out 0 h; exact h) (yl_nil rfl) ?_
  refine Dq rfl (.inl rfl) rfl (fun _ h=>by have h:=Ws.out 0 h; exact h) (Yf fo76_0 rfl) ?_
  refine Dq rfl (.inl rfl) rfl (fun _ h=>by have h:=Ws.out 0 h; exact h) (yl_iar (i:=2) ar74 rfl rfl (by decide)) ?_
  refine Dq rfl (.inl rfl) rfl (fun _ h=>by have h:=Ws.out 0 h; exact h) (yl_nil rfl) ?_
  refine Dq rfl (.inl rfl) rfl (fun _ h=>by have h:=Ws.out 0 h; exact h) (Yf fo76_0 rfl) ?_
  refine De rfl (fun _ h=>by have h:=Ws.out 0 h; exact h) ?_
  refine V0 (Yd 0 rfl rfl rfl na3) ?_
  refine Ln (Ed ?_)
  refine Dq rfl (.inl rfl) rfl (fun _ h=>by have h:=Ws.out 0 h; exact h) (Yi rfl rfl rfl (by omega)) ?_
  refine Dq rfl (.inl rfl) rfl (fun _ h=>by have h:=Ws.out 0 h; exact h) (yl_iar (i:=2) ar74 rfl rfl (by decide)) ?_
  refine De rfl (fun _ h=>by have h:=Ws.out 0 h; exact h) ?_
  refine Lst 0 (.inl rfl) rfl rfl rfl sz3 rfl rfl rfl ?_
  refine Ln (Ed ?_)
  refine WD.nil (fun _ h=>by have h:=Ws.out 0 h; exact h) ?_
  refine WE.end0 rfl fun w' hw=>?_
  exact ⟨rfl,hw⟩
 ·
  subst hc0
  refine Ck ?_
  refine WE.end0 rfl fun w' hw=>?_
  exact ⟨rfl,hw⟩
theorem note4_any (vb be bs:Nat) (c:Cnt) (b:Bool) (w:World) (hb:c.tot≤4611686018427387904) (hw:Ws w [vb] [blk vb (.cells #[.int .i64 0,.int .i64 ((c).f:Int),.int .i64 ((c).m:Int),.int .i64 0,.int .i64 ((c).k:Int),.int .i64 0,.int .i64 0,.int .i64 0,.int .i64 0,.int .i64 0,.map (some be),.map (some bs)] 76 (0,0))] [] w) :
   Calls Try.prog 40 #[.pointer (some ⟨vb,0,none⟩),.bool b,.int .i64 4] w fun e w'=>e = .returned (.tuple #[])∧Ws w [vb] [blk vb (.cells #[.int .i64 0,.int .i64 ((c+noteK b).f:Int),.int .i64 ((c+noteK b).m:Int),.int .i64 0,.int .i64 ((c+noteK b).k:Int),.int .i64 0,.int .i64 0,.int .i64 0,.int .i64 0,.int .i64 0,.map (some be),.map (some bs)] 76 (0,0))] [] w':=by
 have hk:=tot_k c
 refine enter Try.func40 rfl 17 rfl rfl ?_
 refine CWd (W':=Ws w [vb] [blk vb (.cells #[.int .i64 0,.int .i64 ((c).f:Int),.int .i64 ((c).m:Int),.int .i64 0,.int .i64 ((c).k:Int),.int .i64 0,.int .i64 0,.int .i64 0,.int .i64 0,.int .i64 0,.map (some be),.map (some bs)] 76 (0,0))] []) (fun _ e=>by subst e; exact hw) ?_
 refine Cs (Cr ?_)
 refine V0 (Ym rfl) ?_
 refine Ln (Et ?_)
 refine Cc rfl (fun hc0=>?_) (fun hc0=>?_)
 ·
  subst hc0
  refine WC.draws1 0 [(0,true),(1,true),(2,true),(3,true),(4,true),(7,true),(8,true),(5,false),(6,true),(9,true),(10,false)] mixed (by kernel_rfl) (fun _ _ _ d _ h=>by cases d<;>exact h) ?_
  refine Dq rfl (.inl rfl) rfl (fun _ h=>by have h:=Ws.out 0 h; exact h) (Ym rfl) ?_
  refine Dq rfl (.inl rfl) rfl (fun _ h=>by have h:=Ws.out 0 h; exact h) (Ym rfl) ?_
  refine Dq rfl (.inl rfl) rfl (fun _ h=>by have h:=Ws.out 0 h; exact h) (yl_nil rfl) ?_
  refine Dq rfl (.inl rfl) rfl (fun _ h=>by have h:=Ws.out 0 h; exact h) (Yf fo76_0 rfl) ?_
  refine Dq rfl (.inl rfl) rfl (fun _ h=>by have h:=Ws.out 0 h; exact h) (yl_iar (i:=4) ar74 rfl rfl (by decide)) ?_
  refine Dq rfl (.inl rfl) rfl (fun _ h=>by have h:=Ws.out 0 h; exact h) (yl_nil rfl) ?_
  refine Dq rfl (.inl rfl) rfl (fun _ h=>by have h:=Ws.out 0 h; exact h) (Yf fo76_0 rfl) ?_
  refine De rfl (fun _ h=>by have h:=Ws.out 0 h; exact h) ?_
  refine V0 (Yd 0 rfl rfl rfl na3) ?_
  refine Ln (Ed ?_)
  refine Dq rfl (.inl rfl) rfl (fun _ h=>by have h:=Ws.out 0 h; exact h) (Yi rfl rfl rfl (by omega)) ?_
  refine Dq rfl (.inl rfl) rfl (fun _ h=>by have h:=Ws.out 0 h; exact h) (yl_iar (i:=4) ar74 rfl rfl (by decide)) ?_
  refine De rfl (fun _ h=>by have h:=Ws.out 0 h; exact h) ?_
  refine Lst 0 (.inl rfl) rfl rfl rfl sz3 rfl rfl rfl ?_
  refine Ln (Ed ?_)
  refine WD.nil (fun _ h=>by have h:=Ws.out 0 h; exact h) ?_
  refine WE.end0 rfl fun w' hw=>?_
  exact ⟨rfl,hw⟩
 ·
  subst hc0
  refine Ck ?_
  refine WE.end0 rfl fun w' hw=>?_
  exact ⟨rfl,hw⟩
end Go.Proofs.Ytinnlppbkhhoiaa
end
section
namespace Go.Proofs.Ytinnlppbkhhoiaa
open Go.Bw
set_option linter.unusedVariables false
set_option linter.unusedSimpArgs false
theorem cntN_len:∀l:List Tx,(cntN l).tot≤l.length
 | []=>Nat.le_refl _
 | s::r=>by
   have:=cntN_len r; have:=noteF_tot (!nameT s)
   rw [show cntN (s::r)=noteF (!nameT s)+cntN r from rfl,Cnt.tot_add,List.length_cons]
   omega
theorem int_lt3 (n:Nat):decide ((3:Int)<(n:Int))=decide (3<n):=by rw [Bool.eq_iff_iff]; simp; omega
theorem cntE_eq (x:TExpr) (d:Nat):cntE x d=if 6<d then ⟨0,1,0⟩ else noteK (shE x.op).isNone+shapeC ((shE x.op).getD (false,0)) x.mod x.nm x.args.length+noteF (numBad x.op x.n)+cntEs x.args (d+1):=by
 cases x; rw [cntE]; rfl
theorem cntEs_app (d:Nat):∀a b:List TExpr,cntEs (a++b) d=cntEs a d+cntEs b d
 | [],b=>by apply Cnt.ext'<;>simp [Cnt.add_f,Cnt.add_m,Cnt.add_k,cntEs,c0]
 | x::a,b=>by
   rw [List.cons_append,show ∀q,cntEs (x::q) d=cntE x d+cntEs q d from fun q=>by rw [cntEs],cntEs_app d a b,show ∀q,cntEs (x::q) d=cntE x d+cntEs q d from fun q=>by rw [cntEs],Cnt.add_assoc']
theorem cntEs_take {l:List TExpr} {i:Nat} {x:TExpr} (d:Nat) (h:l[i]? = some x):cntEs (l.take (i+1)) d=cntEs (l.take i) d+cntE x d:=by
 rw [take_snoc h,cntEs_app,show cntEs [x] d=cntE x d+c0 by rw [cntEs,cntEs],add_c0]
theorem wEs_take:∀(l:List TExpr) (i:Nat),wEs (l.take i)≤wEs l
 | [],i=>by simp
 | x::r,0=>by simp [wEs]
 | x::r,i+1=>by have:=wEs_take r i; simp only [List.take_succ_cons,wEs]; omega
theorem wEs_upto {l:List TExpr} {i:Nat} {x:TExpr} (h:l[i]? = some x):wEs (l.take i)+wE x≤wEs l:=by
 have h2:=wEs_take l (i+1)
 rw [take_snoc h] at h2
 have:∀a b:List TExpr,wEs (a++b)=wEs a+wEs b:=by
   intro a b
   induction a with
   | nil=>simp [wEs]
   | cons y a ih=>simp only [List.cons_append,wEs,ih]; omega
 rw [this] at h2
 simp only [wEs] at h2
 omega
theorem cntS_eq (x:TStmt) (d:Nat):cntS x d=noteK (shS x.op).isNone+shapeC ((shS x.op).getD (false,0)) x.mod x.nm x.args.length+cntEs x.args 1+noteF (bodyBad x.op x.body.length x.other.length)
     + (if (inner x.op||decide (0<x.body.length))=true then cntB x.body (d+1) else c0)+(if 0<x.other.length then cntB x.other (d+1) else c0):=by
 cases x; rw [cntS]; rfl
theorem cntSs_app (d:Nat):∀a b:List TStmt,cntSs (a++b) d=cntSs a d+cntSs b d
 | [],b=>by apply Cnt.ext'<;>simp [Cnt.add_f,Cnt.add_m,Cnt.add_k,cntSs,c0]
 | x::a,b=>by
   rw [List.cons_append,show ∀q,cntSs (x::q) d=cntS x d+cntSs q d from fun q=>by rw [cntSs],cntSs_app d a b,show ∀q,cntSs (x::q) d=cntS x d+cntSs q d from fun q=>by rw [cntSs],Cnt.add_assoc']
theorem cntSs_take {l:List TStmt} {i:Nat} {x:TStmt} (d:Nat) (h:l[i]? = some x):cntSs (l.take (i+1)) d=cntSs (l.take i) d+cntS x d:=by
 rw [take_snoc h,cntSs_app,show cntSs [x] d=cntS x d+c0 by rw [cntSs,cntSs],add_c0]
theorem wSs_take:∀(l:List TStmt) (i:Nat),wSs (l.take i)≤wSs l
 | [],i=>by simp
 | x::r,0=>by simp [wSs]
 | x::r,i+1=>by have:=wSs_take r i; simp only [List.take_succ_cons,wSs]; omega
theorem wSs_upto {l:List TStmt} {i:Nat} {x:TStmt} (h:l[i]? = some x):wSs (l.take i)+wS x≤wSs l:=by
 have h2:=wSs_take l (i+1)
 rw [take_snoc h] at h2
 have:∀a b:List TStmt,wSs (a++b)=wSs a+wSs b:=by
   intro a b
   induction a with
   | nil=>simp [wSs]
   | cons y a ih=>simp only [List.cons_append,wSs,ih]; omega
 rw [this] at h2
 simp only [wSs] at h2
 omega
theorem en56:Enters Try.prog 56:=enters_of Try.func56 (by kernel_rfl) rfl
theorem en40:Enters Try.prog 40:=enters_of Try.func40 (by kernel_rfl) rfl
theorem fo80_1:fieldOff Try.prog 80 1=some 1:=by kernel_rfl
theorem en39:Enters Try.prog 39:=enters_of Try.func39 (by kernel_rfl) rfl
theorem fo80_0:fieldOff Try.prog 80 0=some 0:=by kernel_rfl
theorem fo80_3:fieldOff Try.prog 80 3=some 3:=by kernel_rfl
theorem fo101_0:fieldOff Try.prog 101 0=some 0:=by kernel_rfl
theorem na4:nonAgg Try.prog 4=true:=by kernel_rfl
theorem fo101_1:fieldOff Try.prog 101 1=some 1:=by kernel_rfl
theorem names_any (vb be bs:Nat) (H:View) (a:Option Addr) (n:Nat) (l:List Tx) (c:Cnt) (w:World) (hm:Sl rdStr 1 H a n l) (hb:c.tot+l.length≤4611686018427387904) (hw:Ws w [vb] [blk vb (.cells #[.int .i64 0,.int .i64 ((c).f:Int),.int .i64 ((c).m:Int),.int .i64 0,.int .i64 ((c).k:Int),.int .i64 0,.int .i64 0,.int .i64 0,.int .i64 0,.int .i64 0,.map (some be),.map (some bs)] 76 (0,0))] [H] w) :
   Calls Try.prog 39 #[.pointer (some ⟨vb,0,none⟩),.slice a l.length n] w fun e w'=>e = .returned (.tuple #[])∧Ws w [vb] [blk vb (.cells #[.int .i64 0,.int .i64 ((c+cntN l).f:Int),.int .i64 ((c+cntN l).m:Int),.int .i64 0,.int .i64 ((c+cntN l).k:Int),.int .i64 0,.int .i64 0,.int .i64 0,.int .i64 0,.int .i64 0,.map (some be),.map (some bs)] 76 (0,0))] [H] w':=by
 have hcap:=hm.cap
 have hmax:=hm.max
 refine enter Try.func39 rfl 18 rfl rfl ?_
 refine CWd (W':=Ws w [vb] [blk vb (.cells #[.int .i64 0,.int .i64 ((c).f:Int),.int .i64 ((c).m:Int),.int .i64 0,.int .i64 ((c).k:Int),.int .i64 0,.int .i64 0,.int .i64 0,.int .i64 0,.int .i64 0,.map (some be),.map (some bs)] 76 (0,0))] [H]) (fun _ e=>by subst e; exact hw) ?_
 refine Cs (Cr ?_)
 refine V0 (Ym rfl) ?_
 refine V0 (Yn es27 rfl) ?_
 refine V0 (Ym rfl) ?_
 refine Ln (Et (Cb ?_))
 refine CK (ι:=Nat) (fun i=>[(8,.int .i64 (i:Int))]) [(0,_),(6,_),(7,_)] (fun i=>Ws w [vb] [blk vb (.cells #[.int .i64 0,.int .i64 ((c+cntN (l.take i)).f:Int),.int .i64 ((c+cntN (l.take i)).m:Int),.int .i64 0,.int .i64 ((c+cntN (l.take i)).k:Int),.int .i64 0,.int .i64 0,.int .i64 0,.int .i64 0,.int .i64 0,.map (some be),.map (some bs)] 76 (0,0))] [H]) (fun i=>i≤l.length) (fun i=>l.length-i) 0 (Nat.zero_le _) (sc rfl (sc rfl (sc rfl (sc rfl sn)))) (fun _ h=>h) ?_
 intro i hi
 refine Cs (Cr ?_)
 refine V0 (yl_lt rfl rfl) ?_
 refine Ln (Et (Cs ?_))
 refine Cc rfl (fun hc0=>?_) (fun hc0=>?_)
 ·
  have hlt:i<l.length:=by simpa using hc0
  obtain ⟨x,hxi⟩:∃x,l[i]? = some x:=⟨_,List.getElem?_eq_getElem hlt⟩
  obtain ⟨pbx,pox,ha,hrow⟩:=hm.elt i x hxi
  have hrow:RdC H pbx (pox+i*1) (strC x):=hrow
  have e2:c+cntN (l.take i)+noteF (!nameT x)=c+cntN (l.take (i+1)):=by rw [cntN_take hxi,Cnt.add_assoc']
  have hbt:(c+cntN (l.take i)).tot≤4611686018427387904:=by
    rw [Cnt.tot_add]
    have:=cntN_len (l.take i)
    simp at this
    omega
  refine Ck (Et (Cs (Cb (Cs (Cr ?_)))))
  refine V0 (Yo es27 rfl rfl (by assumption) (by omega)) ?_
  refine V0 (yl_ld 0 na9 rfl rfl (hrow 0 _ rfl)) ?_
  refine V0 (Ya rfl) ?_
  refine Ln (Et (Cr ?_))
  refine V0 (Ym rfl) ?_
  refine V0 (Ym rfl) ?_
  refine Lp (.inl rfl) rfl en56 rfl (fun w hw=>treeName_any _ w) ?_
  refine V0 (yl_not rfl) ?_
  refine Lf 0 rfl ?_
  refine WL.callw0 [_] _ [blk vb (.cells #[.int .i64 0,.int .i64 ((c+cntN (l.take i)+noteF (!nameT x)).f:Int),.int .i64 ((c+cntN (l.take i)+noteF (!nameT x)).m:Int),.int .i64 0,.int .i64 ((c+cntN (l.take i)+noteF (!nameT x)).k:Int),.int .i64 0,.int .i64 0,.int .i64 0,.int .i64 0,.int .i64 0,.map (some be),.map (some bs)] 76 (0,0))] (.inl rfl) rfl en40 rfl rfl [] (by simp) (fun w hw=>note1_any vb be bs (c+cntN (l.take i)) (!nameT x) w (hbt) hw) ?_
  refine Ln (Eb (Et (Cr ?_)))
  refine V0 (Yi rfl rfl rfl (by omega)) ?_
  refine V0 (Ym rfl) ?_
  refine Ln ?_
  rw [e2]
  exact Ea (i+1) (by omega) (by omega) (sc rfl (sc rfl (sc rfl (sc rfl sn)))) (fun _ h=>h)
 ·
  have hge:¬i<l.length:=by simpa using hc0
  have hT:l.take i=l:=List.take_of_length_le (by omega)
  rw [hT]
  refine Ce (Ex (Ex (Ebh ?_)))
  refine WE.end0 rfl fun w' hw=>?_
  exact ⟨rfl,hw⟩
theorem vdecl_any (vb be bs:Nat) (d:TDecl) (c:Cnt) (w:World) (hb:c.tot+4≤4611686018427387904) (hw:Ws w [vb] [blk vb (.cells #[.int .i64 0,.int .i64 ((c).f:Int),.int .i64 ((c).m:Int),.int .i64 0,.int .i64 ((c).k:Int),.int .i64 0,.int .i64 0,.int .i64 0,.int .i64 0,.int .i64 0,.map (some be),.map (some bs)] 76 (0,0))] [] w) :
   Calls Try.prog 41 #[.pointer (some ⟨vb,0,none⟩),.agg #[.int .i64 d.kind,st d.nm,.bool d.pub,.int .i64 d.n]] w fun e w'=>e = .returned (.tuple #[])∧Ws w [vb] [blk vb (.cells #[.int .i64 0,.int .i64 ((c+declC d).f:Int),.int .i64 ((c+declC d).m:Int),.int .i64 0,.int .i64 ((c+declC d).k:Int),.int .i64 0,.int .i64 0,.int .i64 0,.int .i64 0,.int .i64 0,.map (some be),.map (some bs)] 76 (0,0))] [] w':=by
 have hbt:(c+cntN [d.nm]).tot≤4611686018427387904:=by
   rw [Cnt.tot_add]
   have:=cntN_len [d.nm]
   simp at this
   omega
 refine enter Try.func41 rfl 44 rfl rfl ?_
 refine CWd (W':=Ws w [vb] [blk vb (.cells #[.int .i64 0,.int .i64 ((c).f:Int),.int .i64 ((c).m:Int),.int .i64 0,.int .i64 ((c).k:Int),.int .i64 0,.int .i64 0,.int .i64 0,.int .i64 0,.int .i64 0,.map (some be),.map (some bs)] 76 (0,0))] []) (fun _ e=>by subst e; exact hw) ?_
 refine Cs (Cr ?_)
 refine WL.box (.inl rfl) rfl rfl fun b3=>?_
 refine Ln (Et (Cs (Cr ?_)))
 refine V0 (Ym rfl) ?_
 refine V0 (Yf fo80_1 rfl) ?_
 refine V0 (Yd 0 rfl rfl rfl na9) ?_
 refine Lb (.inl rfl) rfl el27 rfl rfl rfl rfl fun b7=>?_
 refine Lsv (T:=9) (m:=1) 0 [d.nm] rfl rfl (show 1≤1 by decide) (by decide) fun H7 hH7=>?_
 refine Lf 1 rfl ?_
 refine WL.callw0 [_] _ [blk vb (.cells #[.int .i64 0,.int .i64 ((c+cntN [d.nm]).f:Int),.int .i64 ((c+cntN [d.nm]).m:Int),.int .i64 0,.int .i64 ((c+cntN [d.nm]).k:Int),.int .i64 0,.int .i64 0,.int .i64 0,.int .i64 0,.int .i64 0,.map (some be),.map (some bs)] 76 (0,0))] (.inl rfl) rfl en39 rfl rfl [H7] (by simp) (fun w hw=>names_any vb be bs H7 _ _ [d.nm] (c) w hH7 (by show c.tot+1≤_; omega) hw) ?_
 refine Ln (Et (Cs (Cr ?_)))
 refine V0 (Yf fo80_0 rfl) ?_
 refine V0 (Yd 1 rfl rfl rfl na3) ?_
 refine Ln (Et (Cb (Cs (Cr ?_))))
 refine V0 (yl_eq rfl rfl) ?_
 refine V0 (Ya rfl) ?_
 refine Ln (Et ?_)
 refine Cc rfl (fun hc0=>?_) (fun hc0=>?_)
 ·
  have hk:d.kind=1:=by simpa using hc0
  have e2:∀b,(b=(decide (d.n<0)||decide (1099511627775<d.n)))→c+cntN [d.nm]+noteF b=c+declC d:=fun b hb=>by rw [hb,declC,if_pos hk,Cnt.add_assoc']
  refine Cr ?_
  refine V0 (Ym rfl) ?_
  refine V0 (Yf fo80_3 rfl) ?_
  refine V0 (Yd 1 rfl rfl rfl na3) ?_
  refine V0 (yl_lt rfl rfl) ?_
  refine V0 (Ym rfl) ?_
  apply WL.or 3 rfl rfl rfl rfl (.inl rfl) rfl rfl rfl rfl rfl
  ·
   intro hg0
   refine Lv (.g rfl rfl rfl) rfl (Yf fo80_3 rfl) ?_
   refine Lv (.g rfl rfl rfl) rfl (Yd 1 rfl rfl rfl na3) ?_
   refine Lv (.g rfl rfl rfl) rfl (yl_gt rfl rfl) ?_
   exact Gt 3 rfl rfl rfl
  refine Lf 0 rfl ?_
  refine WL.callw0 [_] _ [blk vb (.cells #[.int .i64 0,.int .i64 ((c+cntN [d.nm]+noteF (decide (d.n<0)||decide (1099511627775<d.n))).f:Int),.int .i64 ((c+cntN [d.nm]+noteF (decide (d.n<0)||decide (1099511627775<d.n))).m:Int),.int .i64 0,.int .i64 ((c+cntN [d.nm]+noteF (decide (d.n<0)||decide (1099511627775<d.n))).k:Int),.int .i64 0,.int .i64 0,.int .i64 0,.int .i64 0,.int .i64 0,.map (some be),.map (some bs)] 76 (0,0))] (.inl rfl) rfl en40 rfl rfl [] (by simp) (fun w hw=>note1_any vb be bs (c+cntN [d.nm]) (decide (d.n<0)||decide (1099511627775<d.n)) w (hbt) hw) ?_
  refine Ln (Eb ?_)
  refine WE.end0 rfl fun w' hw=>?_
  rw [e2 _ rfl] at hw
  exact ⟨rfl,Ws.drops (Ws.keep (L:=[_]) hw) (fun _ hm=>List.mem_append_right [_] hm)⟩
 ·
  have hk:¬d.kind=1:=by simpa using hc0
  refine Cs (Cr ?_)
  refine V0 (yl_eq rfl rfl) ?_
  refine V0 (Ya rfl) ?_
  refine Ln (Et ?_)
  refine Cc rfl (fun hc1=>?_) (fun hc1=>?_)
  ·
   have hk2:d.kind=2:=by simpa using hc1
   have e2:∀b,(b=(!(d.n==0)))→c+cntN [d.nm]+noteF b=c+declC d:=fun b hb=>by rw [hb,declC,if_neg hk,if_pos hk2,Cnt.add_assoc']
   refine Cr ?_
   refine V0 (Ym rfl) ?_
   refine V0 (Yf fo80_3 rfl) ?_
   refine V0 (Yd 1 rfl rfl rfl na3) ?_
   refine V0 (yl_ne rfl rfl) ?_
   refine Lf 0 rfl ?_
   refine WL.callw0 [_] _ [blk vb (.cells #[.int .i64 0,.int .i64 ((c+cntN [d.nm]+noteF (!(d.n==0))).f:Int),.int .i64 ((c+cntN [d.nm]+noteF (!(d.n==0))).m:Int),.int .i64 0,.int .i64 ((c+cntN [d.nm]+noteF (!(d.n==0))).k:Int),.int .i64 0,.int .i64 0,.int .i64 0,.int .i64 0,.int .i64 0,.map (some be),.map (some bs)] 76 (0,0))] (.inl rfl) rfl en40 rfl rfl [] (by simp) (fun w hw=>note1_any vb be bs (c+cntN [d.nm]) (!(d.n==0)) w (hbt) hw) ?_
   refine Ln (Eb ?_)
   refine WE.end0 rfl fun w' hw=>?_
   rw [e2 _ rfl] at hw
   exact ⟨rfl,Ws.drops (Ws.keep (L:=[_]) hw) (fun _ hm=>List.mem_append_right [_] hm)⟩
  ·
   have hk2:¬d.kind=2:=by simpa using hc1
   refine Cs (Cr ?_)
   refine V0 (yl_eq rfl rfl) ?_
   refine V0 (Ya rfl) ?_
   refine Ln (Et ?_)
   refine Cc rfl (fun hc2=>?_) (fun hc2=>?_)
   ·
    have hk3:d.kind=3:=by simpa using hc2
    have e2:∀b,(b=(decide (d.n<1)||decide (32<d.n)))→c+cntN [d.nm]+noteF b=c+declC d:=fun b hb=>by rw [hb,declC,if_neg hk,if_neg hk2,if_pos hk3,Cnt.add_assoc']
    refine Cr ?_
    refine V0 (Ym rfl) ?_
    refine V0 (Yf fo80_3 rfl) ?_
    refine V0 (Yd 1 rfl rfl rfl na3) ?_
    refine V0 (yl_lt rfl rfl) ?_
    refine V0 (Ym rfl) ?_
    apply WL.or 3 rfl rfl rfl rfl (.inl rfl) rfl rfl rfl rfl rfl
    ·
     intro hg1
     refine Lv (.g rfl rfl rfl) rfl (Yf fo80_3 rfl) ?_
     refine Lv (.g rfl rfl rfl) rfl (Yd 1 rfl rfl rfl na3) ?_
     refine Lv (.g rfl rfl rfl) rfl (yl_gt rfl rfl) ?_
     exact Gt 3 rfl rfl rfl
    refine Lf 0 rfl ?_
    refine WL.callw0 [_] _ [blk vb (.cells #[.int .i64 0,.int .i64 ((c+cntN [d.nm]+noteF (decide (d.n<1)||decide (32<d.n))).f:Int),.int .i64 ((c+cntN [d.nm]+noteF (decide (d.n<1)||decide (32<d.n))).m:Int),.int .i64 0,.int .i64 ((c+cntN [d.nm]+noteF (decide (d.n<1)||decide (32<d.n))).k:Int),.int .i64 0,.int .i64 0,.int .i64 0,.int .i64 0,.int .i64 0,.map (some be),.map (some bs)] 76 (0,0))] (.inl rfl) rfl en40 rfl rfl [] (by simp) (fun w hw=>note1_any vb be bs (c+cntN [d.nm]) (decide (d.n<1)||decide (32<d.n)) w (hbt) hw) ?_
    refine Ln (Eb ?_)
    refine WE.end0 rfl fun w' hw=>?_
    rw [e2 _ rfl] at hw
    exact ⟨rfl,Ws.drops (Ws.keep (L:=[_]) hw) (fun _ hm=>List.mem_append_right [_] hm)⟩
   ·
    have hk3:¬d.kind=3:=by simpa using hc2
    have e2:∀b,(b=true)→c+cntN [d.nm]+noteK b=c+declC d:=fun b hb=>by rw [hb,declC,if_neg hk,if_neg hk2,if_neg hk3,Cnt.add_assoc']
    refine Cr ?_
    refine V0 (Ym rfl) ?_
    refine Lf 0 rfl ?_
    refine WL.callw0 [_] _ [blk vb (.cells #[.int .i64 0,.int .i64 ((c+cntN [d.nm]+noteK (true)).f:Int),.int .i64 ((c+cntN [d.nm]+noteK (true)).m:Int),.int .i64 0,.int .i64 ((c+cntN [d.nm]+noteK (true)).k:Int),.int .i64 0,.int .i64 0,.int .i64 0,.int .i64 0,.int .i64 0,.map (some be),.map (some bs)] 76 (0,0))] (.inl rfl) rfl en40 rfl rfl [] (by simp) (fun w hw=>note4_any vb be bs (c+cntN [d.nm]) (true) w (hbt) hw) ?_
    refine Ln (Eb ?_)
    refine WE.end0 rfl fun w' hw=>?_
    rw [e2 _ rfl] at hw
    exact ⟨rfl,Ws.drops (Ws.keep (L:=[_]) hw) (fun _ hm=>List.mem_append_right [_] hm)⟩
theorem vshape_any (vb be bs:Nat) (r:Bool) (a:Int) (mod nm:Tx) (len:Nat) (c:Cnt) (w:World) (hb:c.tot+4≤4611686018427387904) (hl:mod.length+nm.length≤9223372036854775807) (hw:Ws w [vb] [blk vb (.cells #[.int .i64 0,.int .i64 ((c).f:Int),.int .i64 ((c).m:Int),.int .i64 0,.int .i64 ((c).k:Int),.int .i64 0,.int .i64 0,.int .i64 0,.int .i64 0,.int .i64 0,.map (some be),.map (some bs)] 76 (0,0))] [] w) :
   Calls Try.prog 57 #[.pointer (some ⟨vb,0,none⟩),.agg #[.bool r,.int .i64 a],st mod,st nm,.int .i64 (len:Int)] w fun e w'=>e = .returned (.tuple #[])∧Ws w [vb] [blk vb (.cells #[.int .i64 0,.int .i64 ((c+shapeC (r,a) mod nm len).f:Int),.int .i64 ((c+shapeC (r,a) mod nm len).m:Int),.int .i64 0,.int .i64 ((c+shapeC (r,a) mod nm len).k:Int),.int .i64 0,.int .i64 0,.int .i64 0,.int .i64 0,.int .i64 0,.map (some be),.map (some bs)] 76 (0,0))] [] w':=by
 have h1:(c+noteF (badName r mod nm)).tot≤4611686018427387904:=by rw [Cnt.tot_add]; have:=noteF_tot (badName r mod nm); omega
 have h2:(c+noteF (badName r mod nm)+noteF (badArgs a len)).tot≤4611686018427387904:=by rw [Cnt.tot_add,Cnt.tot_add]; have:=noteF_tot (badName r mod nm); have:=noteF_tot (badArgs a len); omega
 have e3:c+noteF (badName r mod nm)+noteF (badArgs a len)+noteM (decide (3<len))=c+shapeC (r,a) mod nm len:=by rw [shapeC,Cnt.add_assoc',Cnt.add_assoc',Cnt.add_assoc']
 refine enter Try.func57 rfl 54 rfl rfl ?_
 refine CWd (W':=Ws w [vb] [blk vb (.cells #[.int .i64 0,.int .i64 ((c).f:Int),.int .i64 ((c).m:Int),.int .i64 0,.int .i64 ((c).k:Int),.int .i64 0,.int .i64 0,.int .i64 0,.int .i64 0,.int .i64 0,.map (some be),.map (some bs)] 76 (0,0))] []) (fun _ e=>by subst e; exact hw) ?_
 refine Cs (Cr ?_)
 refine WL.box (.inl rfl) rfl rfl fun b6=>?_
 refine Ln (Et (Cs (Cr ?_)))
 refine V0 (Ym rfl) ?_
 refine V0 (Yf fo101_0 rfl) ?_
 refine V0 (Yd 0 rfl rfl rfl na4) ?_
 refine V0 (Ym rfl) ?_
 apply WL.and 12 rfl rfl rfl rfl (.inl rfl) rfl rfl rfl rfl rfl
 ·
  intro hg0
  refine Lv (.g rfl rfl rfl) rfl (Ym rfl) ?_
  refine Lv (.g rfl rfl rfl) rfl (yl_nes rfl rfl) ?_
  refine Lv (.g rfl rfl rfl) rfl (Ym rfl) ?_
  apply WL.and 3 rfl rfl rfl rfl (.g rfl rfl rfl) rfl rfl rfl rfl rfl
  ·
   intro hg1
   refine Lv (.g rfl rfl rfl) rfl (Ym rfl) ?_
   refine Lp (.g rfl rfl rfl) rfl en56 rfl (fun w hw=>treeName_any _ w) ?_
   refine Lv (.g rfl rfl rfl) rfl (yl_not rfl) ?_
   exact Gt 3 rfl rfl rfl
  refine Lv (.g rfl rfl rfl) rfl (Ym rfl) ?_
  apply WL.or 3 rfl rfl rfl rfl (.g rfl rfl rfl) rfl rfl rfl rfl rfl
  ·
   intro hg2
   refine Lv (.g rfl rfl rfl) rfl (Ym rfl) ?_
   refine Lp (.g rfl rfl rfl) rfl en56 rfl (fun w hw=>treeName_any _ w) ?_
   refine Lv (.g rfl rfl rfl) rfl (yl_not rfl) ?_
   exact Gt 3 rfl rfl rfl
  exact Gt 6 rfl rfl rfl
 refine V0 (Ym rfl) ?_
 apply WL.or 9 rfl rfl rfl rfl (.inl rfl) rfl rfl rfl rfl rfl
 ·
  intro hg3
  refine Lv (.g rfl rfl rfl) rfl (Yf fo101_0 rfl) ?_
  refine Lv (.g rfl rfl rfl) rfl (Yd 0 rfl rfl rfl na4) ?_
  refine Lv (.g rfl rfl rfl) rfl (yl_not rfl) ?_
  refine Lv (.g rfl rfl rfl) rfl (Ym rfl) ?_
  apply WL.and 4 rfl rfl rfl rfl (.g rfl rfl rfl) rfl rfl rfl rfl rfl
  ·
   intro hg4
   refine Lv (.g rfl rfl rfl) rfl (Ym rfl) ?_
   refine Lv (.g rfl rfl rfl) rfl (Ym rfl) ?_
   refine Lv (.g rfl rfl rfl) rfl (yl_cats rfl rfl hl) ?_
   refine Lv (.g rfl rfl rfl) rfl (yl_nes rfl rfl) ?_
   exact Gt 4 rfl rfl rfl
  exact Gt 5 rfl rfl rfl
 refine Lf 1 rfl ?_
 refine WL.callw0 [_] _ [blk vb (.cells #[.int .i64 0,.int .i64 ((c+noteF (badName r mod nm)).f:Int),.int .i64 ((c+noteF (badName r mod nm)).m:Int),.int .i64 0,.int .i64 ((c+noteF (badName r mod nm)).k:Int),.int .i64 0,.int .i64 0,.int .i64 0,.int .i64 0,.int .i64 0,.map (some be),.map (some bs)] 76 (0,0))] (.inl rfl) rfl en40 rfl rfl [] (by simp) (fun w hw=>note1_any vb be bs (c) (badName r mod nm) w (by omega) hw) ?_
 refine Ln (Et (Cs (Cr ?_)))
 refine V0 (Ym rfl) ?_
 refine V0 (Yf fo101_1 rfl) ?_
 refine V0 (Yd 1 rfl rfl rfl na3) ?_
 refine V0 (yl_ge rfl rfl) ?_
 refine V0 (Ym rfl) ?_
 apply WL.and 4 rfl rfl rfl rfl (.inl rfl) rfl rfl rfl rfl rfl
 ·
  intro hg5
  refine Lv (.g rfl rfl rfl) rfl (Ym rfl) ?_
  refine Lv (.g rfl rfl rfl) rfl (Yf fo101_1 rfl) ?_
  refine Lv (.g rfl rfl rfl) rfl (Yd 1 rfl rfl rfl na3) ?_
  refine Lv (.g rfl rfl rfl) rfl (yl_ne rfl rfl) ?_
  exact Gt 4 rfl rfl rfl
 refine Lf 0 rfl ?_
 refine WL.callw0 [_] _ [blk vb (.cells #[.int .i64 0,.int .i64 ((c+noteF (badName r mod nm)+noteF (badArgs a len)).f:Int),.int .i64 ((c+noteF (badName r mod nm)+noteF (badArgs a len)).m:Int),.int .i64 0,.int .i64 ((c+noteF (badName r mod nm)+noteF (badArgs a len)).k:Int),.int .i64 0,.int .i64 0,.int .i64 0,.int .i64 0,.int .i64 0,.map (some be),.map (some bs)] 76 (0,0))] (.inl rfl) rfl en40 rfl rfl [] (by simp) (fun w hw=>note1_any vb be bs (c+noteF (badName r mod nm)) (badArgs a len) w (h1) hw) ?_
 refine Ln (Et (Cr ?_))
 refine V0 (Ym rfl) ?_
 refine V0 (Ym rfl) ?_
 refine V0 (yl_gt rfl rfl) ?_
 rw [int_lt3]
 refine Lf 0 rfl ?_
 refine WL.callw0 [_] _ [blk vb (.cells #[.int .i64 0,.int .i64 ((c+noteF (badName r mod nm)+noteF (badArgs a len)+noteM (decide (3<len))).f:Int),.int .i64 ((c+noteF (badName r mod nm)+noteF (badArgs a len)+noteM (decide (3<len))).m:Int),.int .i64 0,.int .i64 ((c+noteF (badName r mod nm)+noteF (badArgs a len)+noteM (decide (3<len))).k:Int),.int .i64 0,.int .i64 0,.int .i64 0,.int .i64 0,.int .i64 0,.map (some be),.map (some bs)] 76 (0,0))] (.inl rfl) rfl en40 rfl rfl [] (by simp) (fun w hw=>note2_any vb be bs (c+noteF (badName r mod nm)+noteF (badArgs a len)) (decide (3<len)) w (h2) hw) ?_
 refine Ln ?_
 refine WE.end0 rfl fun w' hw=>?_
 rw [e3] at hw
 exact ⟨rfl,Ws.keep (L:=[_]) hw⟩
end Go.Proofs.Ytinnlppbkhhoiaa
end
section
namespace Go.Proofs.Ytinnlppbkhhoiaa
open Go.Bw
set_option linter.unusedVariables false
set_option linter.unusedSimpArgs false
theorem fo76_1:fieldOff Try.prog 76 1=some 10:=by kernel_rfl
theorem na72:nonAgg Try.prog 72=true:=by kernel_rfl
theorem fo108_0:fieldOff Try.prog 108 0=some 0:=by kernel_rfl
theorem sz101:sizeP Try.prog 101=some 2:=by kernel_rfl
theorem ag101:aggOf Try.prog 101=some 2:=by kernel_rfl
theorem fo108_2:fieldOff Try.prog 108 2=some 2:=by kernel_rfl
theorem fo108_3:fieldOff Try.prog 108 3=some 3:=by kernel_rfl
theorem fo108_4:fieldOff Try.prog 108 4=some 4:=by kernel_rfl
theorem na102:nonAgg Try.prog 102=true:=by kernel_rfl
theorem es102:elemSz Try.prog 102=some 5:=by kernel_rfl
theorem en57:Enters Try.prog 57:=enters_of Try.func57 (by kernel_rfl) rfl
theorem fo108_1:fieldOff Try.prog 108 1=some 1:=by kernel_rfl
theorem ag108:aggOf Try.prog 108=some 5:=by kernel_rfl
theorem zr108:zeroOf Try.prog 108=some (.agg #[.int .i64 0,.int .i64 0,st [],st [],.slice none 0 0]):=by kernel_rfl
theorem sz108:sizeP Try.prog 108=some 5:=by kernel_rfl
theorem en58:Enters Try.prog 58:=enters_of Try.func58 (by kernel_rfl) rfl
theorem vexpr_any (vb be bs:Nat) (H:View) (k:Nat) (x:TExpr) (a:Option Addr) (n:Nat) (d:Nat) (c:Cnt) (w:World) (hm:Sl (RdE k) 5 H a n x.args) (hb:c.tot+8*wE x≤1152921504606846976) (hw:Ws w [vb,be,bs] [blk vb (.cells #[.int .i64 0,.int .i64 ((c).f:Int),.int .i64 ((c).m:Int),.int .i64 0,.int .i64 ((c).k:Int),.int .i64 0,.int .i64 0,.int .i64 0,.int .i64 0,.int .i64 0,.map (some be),.map (some bs)] 76 (0,0)),blk be (gobj kI (exprsK 9) 15),blk bs (gobj kI stmtsK 7)] [H] w) :
   Calls Try.prog 58 #[.pointer (some ⟨vb,0,none⟩),.agg #[.int .i64 x.op,.int .i64 x.n,st x.mod,st x.nm,.slice a x.args.length n],.int .i64 (d:Int)] w fun e w'=>e = .returned (.tuple #[])∧Ws w [vb,be,bs] [blk vb (.cells #[.int .i64 0,.int .i64 ((c+cntE x d).f:Int),.int .i64 ((c+cntE x d).m:Int),.int .i64 0,.int .i64 ((c+cntE x d).k:Int),.int .i64 0,.int .i64 0,.int .i64 0,.int .i64 0,.int .i64 0,.map (some be),.map (some bs)] 76 (0,0)),blk be (gobj kI (exprsK 9) 15),blk bs (gobj kI stmtsK 7)] [H] w':=by
 induction k using Nat.strongRecOn generalizing x a n d c w
 rename_i k ih
 have hcap:=hm.cap
 have hmax:=hm.max
 have hw8:=wE_eq x
 have hge:gget x.op (exprsK 9) (.agg #[.bool false,.int .i64 0]) = .agg #[.bool ((shE x.op).getD (false,0)).1,.int .i64 ((shE x.op).getD (false,0)).2]:=(exprs_get x.op).1
 have hgh:=(exprs_get x.op).2
 have t1:=noteK_tot (shE x.op).isNone
 have t2:=shapeC_tot ((shE x.op).getD (false,0)) x.mod x.nm x.args.length
 have t3:=noteF_tot (numBad x.op x.n)
 refine enter Try.func58 rfl 76 rfl rfl ?_
 refine CWd (W':=Ws w [vb,be,bs] [blk vb (.cells #[.int .i64 0,.int .i64 ((c).f:Int),.int .i64 ((c).m:Int),.int .i64 0,.int .i64 ((c).k:Int),.int .i64 0,.int .i64 0,.int .i64 0,.int .i64 0,.int .i64 0,.map (some be),.map (some bs)] 76 (0,0)),blk be (gobj kI (exprsK 9) 15),blk bs (gobj kI stmtsK 7)] [H]) (fun _ e=>by subst e; exact hw) ?_
 refine Cs (Cr ?_)
 refine WL.box (.inl rfl) rfl rfl fun b4=>?_
 refine Ln (Et (Cs (Cs (Cr ?_))))
 refine V0 (Ym rfl) ?_
 refine V0 (yl_gt rfl rfl) ?_
 refine Ln (Et ?_)
 refine Cc rfl (fun hc0=>?_) (fun hc0=>?_)
 ·
  have hd:6<d:=by simp at hc0; omega
  refine Cs (Cr ?_)
  refine V0 (Ym rfl) ?_
  refine Lf 1 rfl ?_
  refine WL.callw0 [_] _ [blk vb (.cells #[.int .i64 0,.int .i64 ((c+noteM (true)).f:Int),.int .i64 ((c+noteM (true)).m:Int),.int .i64 0,.int .i64 ((c+noteM (true)).k:Int),.int .i64 0,.int .i64 0,.int .i64 0,.int .i64 0,.int .i64 0,.map (some be),.map (some bs)] 76 (0,0))] (.inl rfl) rfl en40 rfl rfl [] (by simp) (fun w hw=>note2_any vb be bs (c) (true) w (by omega) hw) ?_
  refine Ln (Et (Crt (Er ?_)))
  refine WE.ret0 rfl fun w' hw=>?_
  rw [show c+cntE x d=c+noteM true by rw [cntE_eq,if_pos hd]; rfl]
  exact ⟨rfl,(by have h:=hw; have h:=h.fronti 3 rfl; have h:=h.fronti 3 rfl; have h:=h.fronti 2 rfl; exact Ws.keep (L:=[_,_,_]) h)⟩
 ·
  have hd:¬6<d:=by simp at hc0; omega
  have hE:c+cntE x d=c+noteK (shE x.op).isNone+shapeC ((shE x.op).getD (false,0)) x.mod x.nm x.args.length+noteF (numBad x.op x.n)+cntEs x.args (d+1):=by rw [cntE_eq,if_neg hd,Cnt.add_assoc',Cnt.add_assoc',Cnt.add_assoc',Cnt.add_assoc',Cnt.add_assoc']
  have hT1:(c+noteK (shE x.op).isNone).tot≤1152921504606846980:=by rw [Cnt.tot_add]; omega
  have hT2:(c+noteK (shE x.op).isNone+shapeC ((shE x.op).getD (false,0)) x.mod x.nm x.args.length).tot≤1152921504606846990:=by rw [Cnt.tot_add,Cnt.tot_add]; omega
  refine Ck (Et (Cs ?_))
  refine WC.draws0 [(0,true),(1,true),(2,true),(3,true),(4,true),(5,true),(6,true),(7,true),(8,true),(9,true),(10,false),(11,false),(12,false)] mixed (by kernel_rfl) (fun _ _ _ d _ h=>by cases d<;>exact h) ?_
  refine Dq rfl (.inl rfl) rfl (fun _ h=>h) (Ym rfl) ?_
  refine Dq rfl (.inl rfl) rfl (fun _ h=>h) (yl_nil rfl) ?_
  refine Dq rfl (.inl rfl) rfl (fun _ h=>h) (Yf fo76_1 rfl) ?_
  refine Dq rfl (.inl rfl) rfl (fun _ h=>h) (Yd 1 rfl rfl rfl na72) ?_
  refine Dq rfl (.inl rfl) rfl (fun _ h=>h) (Yf fo108_0 rfl) ?_
  refine Dq rfl (.inl rfl) rfl (fun _ h=>h) (Yd 0 rfl rfl rfl na3) ?_
  refine Dq rfl (.inl rfl) rfl (fun _ h=>h) (yl_glook2 2 keyInt um72 ui3 zr101 rfl rfl rfl) ?_
  rw [hge,hgh]
  refine Dq rfl (.inl rfl) rfl (fun _ h=>h) (Ym rfl) ?_
  refine Dq rfl (.inl rfl) rfl (fun _ h=>h) (Yx rfl rfl) ?_
  refine Dq rfl (.inl rfl) rfl (fun _ h=>h) (Yx rfl rfl) ?_
  refine De rfl (fun _ h=>h) ?_
  refine WL.alloc (.inl rfl) rfl zr101 fun b6=>?_
  refine Ln (Ed ?_)
  refine De rfl (fun _ h=>by have h:=Ws.drop (L:=[_]) (L':=_) h; exact h) ?_
  refine Lst 0 (.inl rfl) rfl rfl rfl sz101 rfl rfl rfl ?_
  refine Ln (Ed ?_)
  refine De rfl (fun _ h=>by have h:=Ws.drop (L:=[_]) (L':=_) h; exact h) ?_
  refine V0 (Ya rfl) ?_
  refine Ln (Ed ?_)
  refine WD.nil (fun _ h=>by have h:=Ws.drop (L:=[_]) (L':=_) h; exact h) ?_
  refine Et (Cs (Cr ?_))
  refine V0 (Ym rfl) ?_
  refine V0 (Ym rfl) ?_
  refine V0 (yl_not rfl) ?_
  rw [Bool.not_not]
  refine Lf 2 rfl ?_
  refine WL.callw0 [_] _ [blk vb (.cells #[.int .i64 0,.int .i64 ((c+noteK ((shE x.op).isNone)).f:Int),.int .i64 ((c+noteK ((shE x.op).isNone)).m:Int),.int .i64 0,.int .i64 ((c+noteK ((shE x.op).isNone)).k:Int),.int .i64 0,.int .i64 0,.int .i64 0,.int .i64 0,.int .i64 0,.map (some be),.map (some bs)] 76 (0,0))] (.inl rfl) rfl en40 rfl rfl [] (by simp) (fun w hw=>note4_any vb be bs (c) ((shE x.op).isNone) w (by omega) hw) ?_
  refine Ln (Et (Cs (Cr ?_)))
  refine V0 (Ym rfl) ?_
  refine V0 (Yda 1 rfl rfl ag101 rfl) ?_
  refine V0 (Yf fo108_2 rfl) ?_
  refine V0 (Yd 2 rfl rfl rfl na9) ?_
  refine V0 (Yf fo108_3 rfl) ?_
  refine V0 (Yd 2 rfl rfl rfl na9) ?_
  refine V0 (Yf fo108_4 rfl) ?_
  refine V0 (Yd 2 rfl rfl rfl na102) ?_
  refine V0 (Yn es102 rfl) ?_
  refine Lf 0 rfl ?_
  refine WL.callw0 [_] _ [blk vb (.cells #[.int .i64 0,.int .i64 ((c+noteK (shE x.op).isNone+shapeC ((shE x.op).getD (false,0)) x.mod x.nm x.args.length).f:Int),.int .i64 ((c+noteK (shE x.op).isNone+shapeC ((shE x.op).getD (false,0)) x.mod x.nm x.args.length).m:Int),.int .i64 0,.int .i64 ((c+noteK (shE x.op).isNone+shapeC ((shE x.op).getD (false,0)) x.mod x.nm x.args.length).k:Int),.int .i64 0,.int .i64 0,.int .i64 0,.int .i64 0,.int .i64 0,.map (some be),.map (some bs)] 76 (0,0))] (.inl rfl) rfl en57 rfl rfl [] (by simp) (fun w hw=>vshape_any vb be bs ((shE x.op).getD (false,0)).1 ((shE x.op).getD (false,0)).2 x.mod x.nm x.args.length (c+noteK (shE x.op).isNone) w (by omega) (by omega) hw) ?_
  refine Ln (Et (Cs (Cr ?_)))
  refine V0 (Ym rfl) ?_
  refine V0 (Yf fo108_0 rfl) ?_
  refine V0 (Yd 2 rfl rfl rfl na3) ?_
  refine V0 (yl_eq rfl rfl) ?_
  refine V0 (Ym rfl) ?_
  apply WL.and 8 rfl rfl rfl rfl (.inl rfl) rfl rfl rfl rfl rfl
  ·
   intro hg0
   refine Lv (.g rfl rfl rfl) rfl (Yf fo108_1 rfl) ?_
   refine Lv (.g rfl rfl rfl) rfl (Yd 2 rfl rfl rfl na3) ?_
   refine Lv (.g rfl rfl rfl) rfl (yl_lt rfl rfl) ?_
   refine Lv (.g rfl rfl rfl) rfl (Ym rfl) ?_
   apply WL.or 3 rfl rfl rfl rfl (.g rfl rfl rfl) rfl rfl rfl rfl rfl
   ·
    intro hg1
    refine Lv (.g rfl rfl rfl) rfl (Yf fo108_1 rfl) ?_
    refine Lv (.g rfl rfl rfl) rfl (Yd 2 rfl rfl rfl na3) ?_
    refine Lv (.g rfl rfl rfl) rfl (yl_gt rfl rfl) ?_
    exact Gt 3 rfl rfl rfl
   exact Gt 5 rfl rfl rfl
  refine V0 (Ym rfl) ?_
  apply WL.or 8 rfl rfl rfl rfl (.inl rfl) rfl rfl rfl rfl rfl
  ·
   intro hg2
   refine Lv (.g rfl rfl rfl) rfl (Yf fo108_0 rfl) ?_
   refine Lv (.g rfl rfl rfl) rfl (Yd 2 rfl rfl rfl na3) ?_
   refine Lv (.g rfl rfl rfl) rfl (yl_ne rfl rfl) ?_
   refine Lv (.g rfl rfl rfl) rfl (Ym rfl) ?_
   apply WL.and 3 rfl rfl rfl rfl (.g rfl rfl rfl) rfl rfl rfl rfl rfl
   ·
    intro hg3
    refine Lv (.g rfl rfl rfl) rfl (Yf fo108_1 rfl) ?_
    refine Lv (.g rfl rfl rfl) rfl (Yd 2 rfl rfl rfl na3) ?_
    refine Lv (.g rfl rfl rfl) rfl (yl_ne rfl rfl) ?_
    exact Gt 3 rfl rfl rfl
   exact Gt 5 rfl rfl rfl
  refine Lf 0 rfl ?_
  refine WL.callw0 [_] _ [blk vb (.cells #[.int .i64 0,.int .i64 ((c+noteK (shE x.op).isNone+shapeC ((shE x.op).getD (false,0)) x.mod x.nm x.args.length+noteF (numBad x.op x.n)).f:Int),.int .i64 ((c+noteK (shE x.op).isNone+shapeC ((shE x.op).getD (false,0)) x.mod x.nm x.args.length+noteF (numBad x.op x.n)).m:Int),.int .i64 0,.int .i64 ((c+noteK (shE x.op).isNone+shapeC ((shE x.op).getD (false,0)) x.mod x.nm x.args.length+noteF (numBad x.op x.n)).k:Int),.int .i64 0,.int .i64 0,.int .i64 0,.int .i64 0,.int .i64 0,.map (some be),.map (some bs)] 76 (0,0))] (.inl rfl) rfl en40 rfl rfl [] (by simp) (fun w hw=>note1_any vb be bs (c+noteK (shE x.op).isNone+shapeC ((shE x.op).getD (false,0)) x.mod x.nm x.args.length) (numBad x.op x.n) w (by omega) hw) ?_
  refine Ln (Et (Cs (Cr ?_)))
  refine V0 (Yf fo108_4 rfl) ?_
  refine V0 (Yd 2 rfl rfl rfl na102) ?_
  refine V0 (Yn es102 rfl) ?_
  refine V0 (Ym rfl) ?_
  refine Ln (Et (Cb ?_))
  refine CK (ι:=Nat) (fun i=>[(66,.int .i64 (i:Int))]) [(0,_),(2,_),(64,_),(65,_)] (fun i=>Ws w [vb,be,bs] [blk vb (.cells #[.int .i64 0,.int .i64 ((c+noteK (shE x.op).isNone+shapeC ((shE x.op).getD (false,0)) x.mod x.nm x.args.length+noteF (numBad x.op x.n)+cntEs (x.args.take i) (d+1)).f:Int),.int .i64 ((c+noteK (shE x.op).isNone+shapeC ((shE x.op).getD (false,0)) x.mod x.nm x.args.length+noteF (numBad x.op x.n)+cntEs (x.args.take i) (d+1)).m:Int),.int .i64 0,.int .i64 ((c+noteK (shE x.op).isNone+shapeC ((shE x.op).getD (false,0)) x.mod x.nm x.args.length+noteF (numBad x.op x.n)+cntEs (x.args.take i) (d+1)).k:Int),.int .i64 0,.int .i64 0,.int .i64 0,.int .i64 0,.int .i64 0,.map (some be),.map (some bs)] 76 (0,0)),blk be (gobj kI (exprsK 9) 15),blk bs (gobj kI stmtsK 7)] [H]) (fun i=>i≤x.args.length) (fun i=>x.args.length-i) 0 (Nat.zero_le _) (sc rfl (sc rfl (sc rfl (sc rfl (sc rfl sn))))) (fun _ h=>by have h:=h.fronti 4 rfl; have h:=h.fronti 4 rfl; have h:=h.fronti 2 rfl; have h:=Ws.keep (L:=[_,_,_]) h; exact h) ?_
  intro i hi
  refine Cs (Cr ?_)
  refine V0 (yl_lt rfl rfl) ?_
  refine Ln (Et (Cs ?_))
  refine Cc rfl (fun hc1=>?_) (fun hc1=>?_)
  ·
   have hlt:i<x.args.length:=by simpa using hc1
   obtain ⟨y,hyi⟩:∃q,x.args[i]? = some q:=⟨_,List.getElem?_eq_getElem hlt⟩
   obtain ⟨pby,poy,hay,hry⟩:=hm.elt i y hyi
   obtain ⟨k',rfl⟩:∃k',k=k'+1:=by
     cases k with
     | zero=>exact hry.elim
     | succ k'=>exact ⟨k',rfl⟩
   obtain ⟨ya,yn,hrow,hsub⟩:=hry
   have hup:=wEs_upto hyi
   have hle:=cntEs_le (x.args.take i) (d+1)
   have hbi:(c+noteK (shE x.op).isNone+shapeC ((shE x.op).getD (false,0)) x.mod x.nm x.args.length+noteF (numBad x.op x.n)+cntEs (x.args.take i) (d+1)).tot+8*wE y≤1152921504606846976:=by rw [Cnt.tot_add,Cnt.tot_add,Cnt.tot_add,Cnt.tot_add]; omega
   have e2:c+noteK (shE x.op).isNone+shapeC ((shE x.op).getD (false,0)) x.mod x.nm x.args.length+noteF (numBad x.op x.n)+cntEs (x.args.take i) (d+1)+cntE y (d+1)=c+noteK (shE x.op).isNone+shapeC ((shE x.op).getD (false,0)) x.mod x.nm x.args.length+noteF (numBad x.op x.n)+cntEs (x.args.take (i+1)) (d+1):=by rw [cntEs_take (d+1) hyi,←Cnt.add_assoc']
   refine Ck (Et (Cs (Cb (Cs (Cr ?_)))))
   refine V0 (Yo es102 rfl rfl hay (by omega)) ?_
   refine V0 (yl_lda 0 ag108 rfl rfl rfl (hrow)) ?_
   refine WL.alloc (.inl rfl) rfl zr108 fun b9=>?_
   refine Lst 0 (.inl rfl) rfl rfl rfl sz108 rfl rfl rfl ?_
   refine Ln (Et (Cr ?_))
   refine V0 (Ym rfl) ?_
   refine V0 (Yda 0 rfl rfl ag108 rfl) ?_
   refine V0 (Ym rfl) ?_
   refine V0 (Yi rfl rfl rfl (by omega)) ?_
   refine Lf 3 rfl ?_
   refine Lf 3 rfl ?_
   refine Lf 3 rfl ?_
   refine WL.callw0 [_,_,_] _ [blk vb (.cells #[.int .i64 0,.int .i64 ((c+noteK (shE x.op).isNone+shapeC ((shE x.op).getD (false,0)) x.mod x.nm x.args.length+noteF (numBad x.op x.n)+cntEs (x.args.take i) (d+1)+cntE y (d+1)).f:Int),.int .i64 ((c+noteK (shE x.op).isNone+shapeC ((shE x.op).getD (false,0)) x.mod x.nm x.args.length+noteF (numBad x.op x.n)+cntEs (x.args.take i) (d+1)+cntE y (d+1)).m:Int),.int .i64 0,.int .i64 ((c+noteK (shE x.op).isNone+shapeC ((shE x.op).getD (false,0)) x.mod x.nm x.args.length+noteF (numBad x.op x.n)+cntEs (x.args.take i) (d+1)+cntE y (d+1)).k:Int),.int .i64 0,.int .i64 0,.int .i64 0,.int .i64 0,.int .i64 0,.map (some be),.map (some bs)] 76 (0,0)),blk be (gobj kI (exprsK 9) 15),blk bs (gobj kI stmtsK 7)] (.inl rfl) rfl en58 rfl rfl [H] (by simp) (fun w hw=>by
       have:=ih k' (by omega) y ya yn (d+1) (c+noteK (shE x.op).isNone+shapeC ((shE x.op).getD (false,0)) x.mod x.nm x.args.length+noteF (numBad x.op x.n)+cntEs (x.args.take i) (d+1)) w hsub hbi hw
       exact this) ?_
   refine Ln (Eb (Et (Cr ?_)))
   refine V0 (Yi rfl rfl rfl (by omega)) ?_
   refine V0 (Ym rfl) ?_
   refine Ln ?_
   rw [e2]
   exact Ea (i+1) (by omega) (by omega) (sc rfl (sc rfl (sc rfl (sc rfl (sc rfl sn))))) (fun _ h=>by have h:=h.fronti 2 rfl; have h:=h.fronti 2 rfl; have h:=h.fronti 2 rfl; have h:=Ws.keep (L:=[_,_,_]) h; exact h)
  ·
   have hge2:¬i<x.args.length:=by simpa using hc1
   rw [List.take_of_length_le (by omega),←hE]
   refine Ce (Ex (Ex (Ebh ?_)))
   refine WE.end0 rfl fun w' hw=>?_
   exact ⟨rfl,hw⟩
end Go.Proofs.Ytinnlppbkhhoiaa
end
section
namespace Go.Proofs.Ytinnlppbkhhoiaa
open Go.Bw
set_option linter.unusedVariables false
set_option linter.unusedSimpArgs false
theorem c0_add (c:Cnt):c0+c=c:=by apply Cnt.ext'<;>simp [Cnt.add_f,Cnt.add_m,Cnt.add_k,c0]
theorem int_lt0 (n:Nat):decide ((0:Int)<(n:Int))=decide (0<n):=by rw [Bool.eq_iff_iff]; simp
theorem int_lt10 (n:Nat):decide ((10:Int)<(n:Int))=decide (10<n):=by rw [Bool.eq_iff_iff]; simp; omega
theorem cntB_eq {l:List TStmt} {d:Nat} (h:¬6<d):cntB l d=noteM (decide (10<l.length))+cntSs l d:=by rw [cntB,blkC,if_neg h]
theorem es37:elemSz Try.prog 37=some 6:=by kernel_rfl
theorem ag104:aggOf Try.prog 104=some 6:=by kernel_rfl
theorem zr104:zeroOf Try.prog 104=some (.agg #[.int .i64 0,st [],st [],.slice none 0 0,.slice none 0 0,.slice none 0 0]):=by kernel_rfl
theorem sz104:sizeP Try.prog 104=some 6:=by kernel_rfl
theorem fo76_2:fieldOff Try.prog 76 2=some 11:=by kernel_rfl
theorem fo104_0:fieldOff Try.prog 104 0=some 0:=by kernel_rfl
theorem fo104_1:fieldOff Try.prog 104 1=some 1:=by kernel_rfl
theorem fo104_2:fieldOff Try.prog 104 2=some 2:=by kernel_rfl
theorem fo104_3:fieldOff Try.prog 104 3=some 3:=by kernel_rfl
theorem fo104_4:fieldOff Try.prog 104 4=some 4:=by kernel_rfl
theorem na37:nonAgg Try.prog 37=true:=by kernel_rfl
theorem fo104_5:fieldOff Try.prog 104 5=some 5:=by kernel_rfl
theorem en42:Enters Try.prog 42:=enters_of Try.func42 (by kernel_rfl) rfl
theorem vblock_any (vb be bs:Nat) (H:View) (ke k:Nat) (l:List TStmt) (a:Option Addr) (n:Nat) (d:Nat) (c:Cnt) (w:World) (hm:Sl (RdS ke k) 6 H a n l) (hb:c.tot+2+8*wSs l≤1152921504606846976) (hw:Ws w [vb,be,bs] [blk vb (.cells #[.int .i64 0,.int .i64 ((c).f:Int),.int .i64 ((c).m:Int),.int .i64 0,.int .i64 ((c).k:Int),.int .i64 0,.int .i64 0,.int .i64 0,.int .i64 0,.int .i64 0,.map (some be),.map (some bs)] 76 (0,0)),blk be (gobj kI (exprsK 9) 15),blk bs (gobj kI stmtsK 7)] [H] w) :
   Calls Try.prog 42 #[.pointer (some ⟨vb,0,none⟩),.slice a l.length n,.int .i64 (d:Int)] w fun e w'=>e = .returned (.tuple #[])∧Ws w [vb,be,bs] [blk vb (.cells #[.int .i64 0,.int .i64 ((c+cntB l d).f:Int),.int .i64 ((c+cntB l d).m:Int),.int .i64 0,.int .i64 ((c+cntB l d).k:Int),.int .i64 0,.int .i64 0,.int .i64 0,.int .i64 0,.int .i64 0,.map (some be),.map (some bs)] 76 (0,0)),blk be (gobj kI (exprsK 9) 15),blk bs (gobj kI stmtsK 7)] [H] w':=by
 induction k using Nat.strongRecOn generalizing l a n d c w
 rename_i k ih
 have hcap:=hm.cap
 have hmax:=hm.max
 have tM:=noteM_tot (decide (10<l.length))
 refine enter Try.func42 rfl 116 rfl rfl ?_
 refine CWd (W':=Ws w [vb,be,bs] [blk vb (.cells #[.int .i64 0,.int .i64 ((c).f:Int),.int .i64 ((c).m:Int),.int .i64 0,.int .i64 ((c).k:Int),.int .i64 0,.int .i64 0,.int .i64 0,.int .i64 0,.int .i64 0,.map (some be),.map (some bs)] 76 (0,0)),blk be (gobj kI (exprsK 9) 15),blk bs (gobj kI stmtsK 7)] [H]) (fun _ e=>by subst e; exact hw) ?_
 refine Cs (Cs (Cr ?_))
 refine V0 (Ym rfl) ?_
 refine V0 (yl_gt rfl rfl) ?_
 refine Ln (Et ?_)
 refine Cc rfl (fun hc0=>?_) (fun hc0=>?_)
 ·
  have hd:6<d:=by simp at hc0; omega
  refine Cs (Cr ?_)
  refine V0 (Ym rfl) ?_
  refine Lf 0 rfl ?_
  refine WL.callw0 [_] _ [blk vb (.cells #[.int .i64 0,.int .i64 ((c+noteM (true)).f:Int),.int .i64 ((c+noteM (true)).m:Int),.int .i64 0,.int .i64 ((c+noteM (true)).k:Int),.int .i64 0,.int .i64 0,.int .i64 0,.int .i64 0,.int .i64 0,.map (some be),.map (some bs)] 76 (0,0))] (.inl rfl) rfl en40 rfl rfl [] (by simp) (fun w hw=>note2_any vb be bs (c) (true) w (by omega) hw) ?_
  refine Ln (Et (Crt (Er ?_)))
  refine WE.ret0 rfl fun w' hw=>?_
  rw [show c+cntB l d=c+noteM true by rw [cntB,blkC,if_pos hd]; rfl]
  exact ⟨rfl,hw⟩
 ·
  have hd:¬6<d:=by simp at hc0; omega
  refine Ck (Et (Cs (Cr ?_)))
  refine V0 (Ym rfl) ?_
  refine V0 (Ym rfl) ?_
  refine V0 (Yn es37 rfl) ?_
  refine V0 (yl_gt rfl rfl) ?_
  rw [int_lt10]
  refine Lf 0 rfl ?_
  refine WL.callw0 [_] _ [blk vb (.cells #[.int .i64 0,.int .i64 ((c+noteM (decide (10<l.length))).f:Int),.int .i64 ((c+noteM (decide (10<l.length))).m:Int),.int .i64 0,.int .i64 ((c+noteM (decide (10<l.length))).k:Int),.int .i64 0,.int .i64 0,.int .i64 0,.int .i64 0,.int .i64 0,.map (some be),.map (some bs)] 76 (0,0))] (.inl rfl) rfl en40 rfl rfl [] (by simp) (fun w hw=>note2_any vb be bs (c) (decide (10<l.length)) w (by omega) hw) ?_
  refine Ln (Et (Cs (Cr ?_)))
  refine V0 (Ym rfl) ?_
  refine V0 (Yn es37 rfl) ?_
  refine V0 (Ym rfl) ?_
  refine Ln (Et (Cb ?_))
  refine CK (ι:=Nat) (fun i=>[(24,.int .i64 (i:Int))]) [(0,_),(2,_),(22,_),(23,_)] (fun i=>Ws w [vb,be,bs] [blk vb (.cells #[.int .i64 0,.int .i64 ((c+noteM (decide (10<l.length))+cntSs (l.take i) d).f:Int),.int .i64 ((c+noteM (decide (10<l.length))+cntSs (l.take i) d).m:Int),.int .i64 0,.int .i64 ((c+noteM (decide (10<l.length))+cntSs (l.take i) d).k:Int),.int .i64 0,.int .i64 0,.int .i64 0,.int .i64 0,.int .i64 0,.map (some be),.map (some bs)] 76 (0,0)),blk be (gobj kI (exprsK 9) 15),blk bs (gobj kI stmtsK 7)] [H]) (fun i=>i≤l.length) (fun i=>l.length-i) 0 (Nat.zero_le _) (sc rfl (sc rfl (sc rfl (sc rfl (sc rfl sn))))) (fun _ h=>h) ?_
  intro i hi
  refine Cs (Cr ?_)
  refine V0 (yl_lt rfl rfl) ?_
  refine Ln (Et (Cs ?_))
  refine Cc rfl (fun hc1=>?_) (fun hc1=>?_)
  ·
   have hlt:i<l.length:=by simpa using hc1
   obtain ⟨y,hyi⟩:∃q,l[i]? = some q:=⟨_,List.getElem?_eq_getElem hlt⟩
   obtain ⟨pby,poy,hay,hry⟩:=hm.elt i y hyi
   obtain ⟨k',rfl⟩:∃k',k=k'+1:=by
     cases k with
     | zero=>exact hry.elim
     | succ k'=>exact ⟨k',rfl⟩
   obtain ⟨ya,yn,y2,m2,y3,m3,hrow,hs1,hs2,hs3⟩:=hry
   have hup:=wSs_upto hyi
   have hwy:=wS_eq y
   have hle:=cntSs_le (l.take i) d
   have t1:=noteK_tot (shS y.op).isNone
   have t2:=shapeC_tot ((shS y.op).getD (false,0)) y.mod y.nm y.args.length
   have t3:=noteF_tot (bodyBad y.op y.body.length y.other.length)
   have t4:=cntEs_le y.args 1
   have t5:=cntB_le y.body (d+1)
   have hge:gget y.op stmtsK (.agg #[.bool false,.int .i64 0]) = .agg #[.bool ((shS y.op).getD (false,0)).1,.int .i64 ((shS y.op).getD (false,0)).2]:=(stmts_get y.op).1
   have hgh:=(stmts_get y.op).2
   have cap1:=hs1.cap
   have max1:=hs1.max
   have cap2:=hs2.cap
   have max2:=hs2.max
   have cap3:=hs3.cap
   have max3:=hs3.max
   have hb1:(c+noteM (decide (10<l.length))+cntSs (l.take i) d).tot≤1152921504606846976:=by simp only [Cnt.tot_add]; omega
   have hb2:(c+noteM (decide (10<l.length))+cntSs (l.take i) d+noteK (shS y.op).isNone).tot+4≤1152921504606846976:=by simp only [Cnt.tot_add]; omega
   have hb4:(c+noteM (decide (10<l.length))+cntSs (l.take i) d+noteK (shS y.op).isNone+shapeC ((shS y.op).getD (false,0)) y.mod y.nm y.args.length+cntEs y.args 1).tot≤1152921504606846976:=by simp only [Cnt.tot_add]; omega
   have hb5:(c+noteM (decide (10<l.length))+cntSs (l.take i) d+noteK (shS y.op).isNone+shapeC ((shS y.op).getD (false,0)) y.mod y.nm y.args.length+cntEs y.args 1+noteF (bodyBad y.op y.body.length y.other.length)).tot+2+8*wSs y.body≤1152921504606846976:=by simp only [Cnt.tot_add]; omega
   have hb6:(c+noteM (decide (10<l.length))+cntSs (l.take i) d+noteK (shS y.op).isNone+shapeC ((shS y.op).getD (false,0)) y.mod y.nm y.args.length+cntEs y.args 1+noteF (bodyBad y.op y.body.length y.other.length)+cntB y.body (d+1)).tot+2+8*wSs y.other≤1152921504606846976:=by simp only [Cnt.tot_add]; omega
   have hb7:(c+noteM (decide (10<l.length))+cntSs (l.take i) d+noteK (shS y.op).isNone+shapeC ((shS y.op).getD (false,0)) y.mod y.nm y.args.length+cntEs y.args 1+noteF (bodyBad y.op y.body.length y.other.length)).tot+2+8*wSs y.other≤1152921504606846976:=by simp only [Cnt.tot_add]; omega
   refine Ck (Et (Cs (Cb (Cs (Cr ?_)))))
   refine V0 (Yo es37 rfl rfl hay (by omega)) ?_
   refine V0 (yl_lda 0 ag104 rfl rfl rfl (hrow)) ?_
   refine WL.alloc (.inl rfl) rfl zr104 fun b7=>?_
   refine Lst 0 (.inl rfl) rfl rfl rfl sz104 rfl rfl rfl ?_
   refine Ln (Et (Cs ?_))
   refine WC.draws0 [(0,true),(1,true),(2,true),(3,true),(4,true),(5,true),(6,true),(7,true),(8,true),(9,true),(10,false),(11,false),(12,false)] mixed (by kernel_rfl) (fun _ _ _ d _ h=>by cases d<;>exact h) ?_
   refine Dq rfl (.inl rfl) rfl (fun _ h=>h) (Ym rfl) ?_
   refine Dq rfl (.inl rfl) rfl (fun _ h=>h) (yl_nil rfl) ?_
   refine Dq rfl (.inl rfl) rfl (fun _ h=>h) (Yf fo76_2 rfl) ?_
   refine Dq rfl (.inl rfl) rfl (fun _ h=>h) (Yd 1 rfl rfl rfl na72) ?_
   refine Dq rfl (.inl rfl) rfl (fun _ h=>h) (Yf fo104_0 rfl) ?_
   refine Dq rfl (.inl rfl) rfl (fun _ h=>h) (Yd 0 rfl rfl rfl na3) ?_
   refine Dq rfl (.inl rfl) rfl (fun _ h=>h) (yl_glook2 3 keyInt um72 ui3 zr101 rfl rfl rfl) ?_
   rw [hge,hgh]
   refine Dq rfl (.inl rfl) rfl (fun _ h=>h) (Ym rfl) ?_
   refine Dq rfl (.inl rfl) rfl (fun _ h=>h) (Yx rfl rfl) ?_
   refine Dq rfl (.inl rfl) rfl (fun _ h=>h) (Yx rfl rfl) ?_
   refine De rfl (fun _ h=>h) ?_
   refine WL.alloc (.inl rfl) rfl zr101 fun b8=>?_
   refine Ln (Ed ?_)
   refine De rfl (fun _ h=>by have h:=Ws.drop (L:=[_]) (L':=_) h; exact h) ?_
   refine Lst 0 (.inl rfl) rfl rfl rfl sz101 rfl rfl rfl ?_
   refine Ln (Ed ?_)
   refine De rfl (fun _ h=>by have h:=Ws.drop (L:=[_]) (L':=_) h; exact h) ?_
   refine V0 (Ya rfl) ?_
   refine Ln (Ed ?_)
   refine WD.nil (fun _ h=>by have h:=Ws.drop (L:=[_]) (L':=_) h; exact h) ?_
   refine Et (Cs (Cr ?_))
   refine V0 (Ym rfl) ?_
   refine V0 (Ym rfl) ?_
   refine V0 (yl_not rfl) ?_
   rw [Bool.not_not]
   refine Lf 2 rfl ?_
   refine WL.callw0 [_] _ [blk vb (.cells #[.int .i64 0,.int .i64 ((c+noteM (decide (10<l.length))+cntSs (l.take i) d+noteK ((shS y.op).isNone)).f:Int),.int .i64 ((c+noteM (decide (10<l.length))+cntSs (l.take i) d+noteK ((shS y.op).isNone)).m:Int),.int .i64 0,.int .i64 ((c+noteM (decide (10<l.length))+cntSs (l.take i) d+noteK ((shS y.op).isNone)).k:Int),.int .i64 0,.int .i64 0,.int .i64 0,.int .i64 0,.int .i64 0,.map (some be),.map (some bs)] 76 (0,0))] (.inl rfl) rfl en40 rfl rfl [] (by simp) (fun w hw=>note4_any vb be bs (c+noteM (decide (10<l.length))+cntSs (l.take i) d) ((shS y.op).isNone) w (by omega) hw) ?_
   refine Ln (Et (Cs (Cr ?_)))
   refine V0 (Ym rfl) ?_
   refine V0 (Yda 1 rfl rfl ag101 rfl) ?_
   refine V0 (Yf fo104_1 rfl) ?_
   refine V0 (Yd 2 rfl rfl rfl na9) ?_
   refine V0 (Yf fo104_2 rfl) ?_
   refine V0 (Yd 2 rfl rfl rfl na9) ?_
   refine V0 (Yf fo104_3 rfl) ?_
   refine V0 (Yd 2 rfl rfl rfl na102) ?_
   refine V0 (Yn es102 rfl) ?_
   refine Lf 0 rfl ?_
   refine WL.callw0 [_] _ [blk vb (.cells #[.int .i64 0,.int .i64 ((c+noteM (decide (10<l.length))+cntSs (l.take i) d+noteK (shS y.op).isNone+shapeC ((shS y.op).getD (false,0)) y.mod y.nm y.args.length).f:Int),.int .i64 ((c+noteM (decide (10<l.length))+cntSs (l.take i) d+noteK (shS y.op).isNone+shapeC ((shS y.op).getD (false,0)) y.mod y.nm y.args.length).m:Int),.int .i64 0,.int .i64 ((c+noteM (decide (10<l.length))+cntSs (l.take i) d+noteK (shS y.op).isNone+shapeC ((shS y.op).getD (false,0)) y.mod y.nm y.args.length).k:Int),.int .i64 0,.int .i64 0,.int .i64 0,.int .i64 0,.int .i64 0,.map (some be),.map (some bs)] 76 (0,0))] (.inl rfl) rfl en57 rfl rfl [] (by simp) (fun w hw=>vshape_any vb be bs ((shS y.op).getD (false,0)).1 ((shS y.op).getD (false,0)).2 y.mod y.nm y.args.length (c+noteM (decide (10<l.length))+cntSs (l.take i) d+noteK (shS y.op).isNone) w (by omega) (by omega) hw) ?_
   refine Ln (Et (Cs (Cs (Cr ?_))))
   refine V0 (Yf fo104_3 rfl) ?_
   refine V0 (Yd 2 rfl rfl rfl na102) ?_
   refine V0 (Yn es102 rfl) ?_
   refine V0 (Ym rfl) ?_
   refine Ln (Et (Cb ?_))
   refine CK (ι:=Nat) (fun j=>[(55,.int .i64 (j:Int))]) [(0,_),(2,_),(7,_),(22,_),(23,_),(24,_),(53,_),(54,_)] (fun j=>Ws w [vb,be,bs] ([blk vb (.cells #[.int .i64 0,.int .i64 ((c+noteM (decide (10<l.length))+cntSs (l.take i) d+noteK (shS y.op).isNone+shapeC ((shS y.op).getD (false,0)) y.mod y.nm y.args.length+cntEs (y.args.take j) 1).f:Int),.int .i64 ((c+noteM (decide (10<l.length))+cntSs (l.take i) d+noteK (shS y.op).isNone+shapeC ((shS y.op).getD (false,0)) y.mod y.nm y.args.length+cntEs (y.args.take j) 1).m:Int),.int .i64 0,.int .i64 ((c+noteM (decide (10<l.length))+cntSs (l.take i) d+noteK (shS y.op).isNone+shapeC ((shS y.op).getD (false,0)) y.mod y.nm y.args.length+cntEs (y.args.take j) 1).k:Int),.int .i64 0,.int .i64 0,.int .i64 0,.int .i64 0,.int .i64 0,.map (some be),.map (some bs)] 76 (0,0)),blk be (gobj kI (exprsK 9) 15),blk bs (gobj kI stmtsK 7)]++[blk b7 (.cells (stmtV y ya yn y2 m2 y3 m3).toArray 104 (0,0))]) [H]) (fun j=>j≤y.args.length) (fun j=>y.args.length-j) 0 (Nat.zero_le _) (sc rfl (sc rfl (sc rfl (sc rfl (sc rfl (sc rfl (sc rfl (sc rfl (sc rfl sn))))))))) (fun _ h=>by have h:=h.fronti 2 rfl; have h:=h.fronti 4 rfl; have h:=h.fronti 4 rfl; have h:=h.fronti 3 rfl; have h:=Ws.keep (L:=[_,_,_,_]) h; exact h) ?_
   intro j hj
   refine Cs (Cr ?_)
   refine V0 (yl_lt rfl rfl) ?_
   refine Ln (Et (Cs ?_))
   refine Cc rfl (fun hc2=>?_) (fun hc2=>?_)
   ·
    have hlt:j<y.args.length:=by simpa using hc2
    obtain ⟨z,hzi⟩:∃q,y.args[j]? = some q:=⟨_,List.getElem?_eq_getElem hlt⟩
    obtain ⟨pbz,poz,haz,hrz⟩:=hs1.elt j z hzi
    obtain ⟨ke',rfl⟩:∃ke',ke=ke'+1:=by
      cases ke with
      | zero=>exact hrz.elim
      | succ k'=>exact ⟨k',rfl⟩
    obtain ⟨za,zn,hrow2,hsub⟩:=hrz
    have hup2:=wEs_upto hzi
    have hle2:=cntEs_le (y.args.take j) 1
    have hbj:(c+noteM (decide (10<l.length))+cntSs (l.take i) d+noteK (shS y.op).isNone+shapeC ((shS y.op).getD (false,0)) y.mod y.nm y.args.length+cntEs (y.args.take j) 1).tot+8*wE z≤1152921504606846976:=by simp only [Cnt.tot_add]; omega
    have e2:c+noteM (decide (10<l.length))+cntSs (l.take i) d+noteK (shS y.op).isNone+shapeC ((shS y.op).getD (false,0)) y.mod y.nm y.args.length+cntEs (y.args.take j) 1+cntE z 1=c+noteM (decide (10<l.length))+cntSs (l.take i) d+noteK (shS y.op).isNone+shapeC ((shS y.op).getD (false,0)) y.mod y.nm y.args.length+cntEs (y.args.take (j+1)) 1:=by rw [cntEs_take 1 hzi,←Cnt.add_assoc']
    refine Ck (Et (Cs (Cb (Cs (Cr ?_)))))
    refine V0 (Yo es102 rfl rfl haz (by omega)) ?_
    refine V0 (yl_lda 0 ag108 rfl rfl rfl (hrow2)) ?_
    refine WL.alloc (.inl rfl) rfl zr108 fun b11=>?_
    refine Lst 0 (.inl rfl) rfl rfl rfl sz108 rfl rfl rfl ?_
    refine Ln (Et (Cr ?_))
    refine V0 (Ym rfl) ?_
    refine V0 (Yda 0 rfl rfl ag108 rfl) ?_
    refine Lf 3 rfl ?_
    refine Lf 3 rfl ?_
    refine Lf 3 rfl ?_
    refine WL.callw0 [_,_,_] _ [blk vb (.cells #[.int .i64 0,.int .i64 ((c+noteM (decide (10<l.length))+cntSs (l.take i) d+noteK (shS y.op).isNone+shapeC ((shS y.op).getD (false,0)) y.mod y.nm y.args.length+cntEs (y.args.take j) 1+cntE z 1).f:Int),.int .i64 ((c+noteM (decide (10<l.length))+cntSs (l.take i) d+noteK (shS y.op).isNone+shapeC ((shS y.op).getD (false,0)) y.mod y.nm y.args.length+cntEs (y.args.take j) 1+cntE z 1).m:Int),.int .i64 0,.int .i64 ((c+noteM (decide (10<l.length))+cntSs (l.take i) d+noteK (shS y.op).isNone+shapeC ((shS y.op).getD (false,0)) y.mod y.nm y.args.length+cntEs (y.args.take j) 1+cntE z 1).k:Int),.int .i64 0,.int .i64 0,.int .i64 0,.int .i64 0,.int .i64 0,.map (some be),.map (some bs)] 76 (0,0)),blk be (gobj kI (exprsK 9) 15),blk bs (gobj kI stmtsK 7)] (.inl rfl) rfl en58 rfl rfl [H] (by simp) (fun w hw=>by
        have:=vexpr_any vb be bs H ke' z za zn 1 (c+noteM (decide (10<l.length))+cntSs (l.take i) d+noteK (shS y.op).isNone+shapeC ((shS y.op).getD (false,0)) y.mod y.nm y.args.length+cntEs (y.args.take j) 1) w hsub hbj hw
        exact this) ?_
    refine Ln (Eb (Et (Cr ?_)))
    refine V0 (Yi rfl rfl rfl (by omega)) ?_
    refine V0 (Ym rfl) ?_
    refine Ln ?_
    rw [e2]
    exact Ea (j+1) (by omega) (by omega) (sc rfl (sc rfl (sc rfl (sc rfl (sc rfl (sc rfl (sc rfl (sc rfl (sc rfl sn))))))))) (fun _ h=>by have h:=h.fronti 4 rfl; have h:=h.fronti 3 rfl; have h:=h.fronti 3 rfl; have h:=h.fronti 3 rfl; have h:=Ws.keep (L:=[_,_,_,_]) h; exact h)
   ·
    have hge3:¬j<y.args.length:=by simpa using hc2
    rw [List.take_of_length_le (by omega:y.args.length≤j)]
    refine Ce (Ex (Ex (Ebh (Et (Cs ?_)))))
    refine Cr ?_
    refine V0 (Yf fo104_0 rfl) ?_
    refine V0 (Yd 3 rfl rfl rfl na3) ?_
    refine V0 (yl_eq rfl rfl) ?_
    refine V0 (Ym rfl) ?_
    apply WL.or 3 rfl rfl rfl rfl (.inl rfl) rfl rfl rfl rfl rfl
    ·
     intro hg0
     refine Lv (.g rfl rfl rfl) rfl (Yf fo104_0 rfl) ?_
     refine Lv (.g rfl rfl rfl) rfl (Yd 3 rfl rfl rfl na3) ?_
     refine Lv (.g rfl rfl rfl) rfl (yl_eq rfl rfl) ?_
     exact Gt 3 rfl rfl rfl
    refine V0 (Ya rfl) ?_
    refine Ln (Et (Cs (Cr ?_)))
    refine V0 (Ym rfl) ?_
    refine V0 (Ym rfl) ?_
    refine V0 (yl_not rfl) ?_
    refine V0 (Ym rfl) ?_
    apply WL.and 4 rfl rfl rfl rfl (.inl rfl) rfl rfl rfl rfl rfl
    ·
     intro hg1
     refine Lv (.g rfl rfl rfl) rfl (Yf fo104_4 rfl) ?_
     refine Lv (.g rfl rfl rfl) rfl (Yd 3 rfl rfl rfl na37) ?_
     refine Lv (.g rfl rfl rfl) rfl (Yn es37 rfl) ?_
     refine Lv (.g rfl rfl rfl) rfl (yl_gt rfl rfl) ?_
     rw [int_lt0]
     exact Gt 4 rfl rfl rfl
    refine V0 (Ym rfl) ?_
    apply WL.or 9 rfl rfl rfl rfl (.inl rfl) rfl rfl rfl rfl rfl
    ·
     intro hg2
     refine Lv (.g rfl rfl rfl) rfl (Yf fo104_0 rfl) ?_
     refine Lv (.g rfl rfl rfl) rfl (Yd 3 rfl rfl rfl na3) ?_
     refine Lv (.g rfl rfl rfl) rfl (yl_ne rfl rfl) ?_
     refine Lv (.g rfl rfl rfl) rfl (Ym rfl) ?_
     apply WL.and 4 rfl rfl rfl rfl (.g rfl rfl rfl) rfl rfl rfl rfl rfl
     ·
      intro hg3
      refine Lv (.g rfl rfl rfl) rfl (Yf fo104_5 rfl) ?_
      refine Lv (.g rfl rfl rfl) rfl (Yd 3 rfl rfl rfl na37) ?_
      refine Lv (.g rfl rfl rfl) rfl (Yn es37 rfl) ?_
      refine Lv (.g rfl rfl rfl) rfl (yl_gt rfl rfl) ?_
      rw [int_lt0]
      exact Gt 4 rfl rfl rfl
     exact Gt 5 rfl rfl rfl
    refine Lf 0 rfl ?_
    refine WL.callw0 [_] _ [blk vb (.cells #[.int .i64 0,.int .i64 ((c+noteM (decide (10<l.length))+cntSs (l.take i) d+noteK (shS y.op).isNone+shapeC ((shS y.op).getD (false,0)) y.mod y.nm y.args.length+cntEs y.args 1+noteF (bodyBad y.op y.body.length y.other.length)).f:Int),.int .i64 ((c+noteM (decide (10<l.length))+cntSs (l.take i) d+noteK (shS y.op).isNone+shapeC ((shS y.op).getD (false,0)) y.mod y.nm y.args.length+cntEs y.args 1+noteF (bodyBad y.op y.body.length y.other.length)).m:Int),.int .i64 0,.int .i64 ((c+noteM (decide (10<l.length))+cntSs (l.take i) d+noteK (shS y.op).isNone+shapeC ((shS y.op).getD (false,0)) y.mod y.nm y.args.length+cntEs y.args 1+noteF (bodyBad y.op y.body.length y.other.length)).k:Int),.int .i64 0,.int .i64 0,.int .i64 0,.int .i64 0,.int .i64 0,.map (some be),.map (some bs)] 76 (0,0))] (.inl rfl) rfl en40 rfl rfl [] (by simp) (fun w hw=>note1_any vb be bs (c+noteM (decide (10<l.length))+cntSs (l.take i) d+noteK (shS y.op).isNone+shapeC ((shS y.op).getD (false,0)) y.mod y.nm y.args.length+cntEs y.args 1) (bodyBad y.op y.body.length y.other.length) w (by omega) hw) ?_
    refine Ln (Et (Cs (Cs (Cr ?_))))
    refine V0 (Ym rfl) ?_
    refine V0 (Ym rfl) ?_
    apply WL.or 4 rfl rfl rfl rfl (.inl rfl) rfl rfl rfl rfl rfl
    ·
     intro hg4
     refine Lv (.g rfl rfl rfl) rfl (Yf fo104_4 rfl) ?_
     refine Lv (.g rfl rfl rfl) rfl (Yd 3 rfl rfl rfl na37) ?_
     refine Lv (.g rfl rfl rfl) rfl (Yn es37 rfl) ?_
     refine Lv (.g rfl rfl rfl) rfl (yl_gt rfl rfl) ?_
     rw [int_lt0]
     exact Gt 4 rfl rfl rfl
    refine Ln (Et ?_)
    refine Cc rfl (fun hc3=>?_) (fun hc3=>?_)
    ·
     have e3:(if (inner y.op||decide (0<y.body.length))=true then cntB y.body (d+1) else c0)=cntB y.body (d+1):=if_pos hc3
     refine Cr ?_
     refine V0 (Ym rfl) ?_
     refine V0 (Yf fo104_4 rfl) ?_
     refine V0 (Yd 3 rfl rfl rfl na37) ?_
     refine V0 (Ym rfl) ?_
     refine V0 (Yi rfl rfl rfl (by omega)) ?_
     refine Lf 2 rfl ?_
     refine Lf 2 rfl ?_
     refine Lf 2 rfl ?_
     refine WL.callw0 [_,_,_] _ [blk vb (.cells #[.int .i64 0,.int .i64 ((c+noteM (decide (10<l.length))+cntSs (l.take i) d+noteK (shS y.op).isNone+shapeC ((shS y.op).getD (false,0)) y.mod y.nm y.args.length+cntEs y.args 1+noteF (bodyBad y.op y.body.length y.other.length)+cntB y.body (d+1)).f:Int),.int .i64 ((c+noteM (decide (10<l.length))+cntSs (l.take i) d+noteK (shS y.op).isNone+shapeC ((shS y.op).getD (false,0)) y.mod y.nm y.args.length+cntEs y.args 1+noteF (bodyBad y.op y.body.length y.other.length)+cntB y.body (d+1)).m:Int),.int .i64 0,.int .i64 ((c+noteM (decide (10<l.length))+cntSs (l.take i) d+noteK (shS y.op).isNone+shapeC ((shS y.op).getD (false,0)) y.mod y.nm y.args.length+cntEs y.args 1+noteF (bodyBad y.op y.body.length y.other.length)+cntB y.body (d+1)).k:Int),.int .i64 0,.int .i64 0,.int .i64 0,.int .i64 0,.int .i64 0,.map (some be),.map (some bs)] 76 (0,0)),blk be (gobj kI (exprsK 9) 15),blk bs (gobj kI stmtsK 7)] (.inl rfl) rfl en42 rfl rfl [H] (by simp) (fun w hw=>by
         have:=ih k' (by omega) y.body y2 m2 (d+1) (c+noteM (decide (10<l.length))+cntSs (l.take i) d+noteK (shS y.op).isNone+shapeC ((shS y.op).getD (false,0)) y.mod y.nm y.args.length+cntEs y.args 1+noteF (bodyBad y.op y.body.length y.other.length)) w hs2 hb5 hw
         exact this) ?_
     refine Ln (Et (Cs (Cr ?_)))
     refine V0 (Yf fo104_5 rfl) ?_
     refine V0 (Yd 3 rfl rfl rfl na37) ?_
     refine V0 (Yn es37 rfl) ?_
     refine V0 (yl_gt rfl rfl) ?_
     rw [int_lt0]
     refine Ln (Et ?_)
     refine Cc rfl (fun hc4=>?_) (fun hc4=>?_)
     ·
      have e4:(if 0<y.other.length then cntB y.other (d+1) else c0)=cntB y.other (d+1):=if_pos (by simpa using hc4)
      refine Cr ?_
      refine V0 (Ym rfl) ?_
      refine V0 (Yf fo104_5 rfl) ?_
      refine V0 (Yd 3 rfl rfl rfl na37) ?_
      refine V0 (Ym rfl) ?_
      refine V0 (Yi rfl rfl rfl (by omega)) ?_
      refine Lf 2 rfl ?_
      refine Lf 2 rfl ?_
      refine Lf 2 rfl ?_
      refine WL.callw0 [_,_,_] _ [blk vb (.cells #[.int .i64 0,.int .i64 ((c+noteM (decide (10<l.length))+cntSs (l.take i) d+noteK (shS y.op).isNone+shapeC ((shS y.op).getD (false,0)) y.mod y.nm y.args.length+cntEs y.args 1+noteF (bodyBad y.op y.body.length y.other.length)+cntB y.body (d+1)+cntB y.other (d+1)).f:Int),.int .i64 ((c+noteM (decide (10<l.length))+cntSs (l.take i) d+noteK (shS y.op).isNone+shapeC ((shS y.op).getD (false,0)) y.mod y.nm y.args.length+cntEs y.args 1+noteF (bodyBad y.op y.body.length y.other.length)+cntB y.body (d+1)+cntB y.other (d+1)).m:Int),.int .i64 0,.int .i64 ((c+noteM (decide (10<l.length))+cntSs (l.take i) d+noteK (shS y.op).isNone+shapeC ((shS y.op).getD (false,0)) y.mod y.nm y.args.length+cntEs y.args 1+noteF (bodyBad y.op y.body.length y.other.length)+cntB y.body (d+1)+cntB y.other (d+1)).k:Int),.int .i64 0,.int .i64 0,.int .i64 0,.int .i64 0,.int .i64 0,.map (some be),.map (some bs)] 76 (0,0)),blk be (gobj kI (exprsK 9) 15),blk bs (gobj kI stmtsK 7)] (.inl rfl) rfl en42 rfl rfl [H] (by simp) (fun w hw=>by
          have:=ih k' (by omega) y.other y3 m3 (d+1) (c+noteM (decide (10<l.length))+cntSs (l.take i) d+noteK (shS y.op).isNone+shapeC ((shS y.op).getD (false,0)) y.mod y.nm y.args.length+cntEs y.args 1+noteF (bodyBad y.op y.body.length y.other.length)+cntB y.body (d+1)) w hs3 hb6 hw
          exact this) ?_
      refine Ln (Eb (Et (Cr ?_)))
      refine V0 (Yi rfl rfl rfl (by omega)) ?_
      refine V0 (Ym rfl) ?_
      refine Ln ?_
      rw [show c+noteM (decide (10<l.length))+cntSs (l.take i) d+noteK (shS y.op).isNone+shapeC ((shS y.op).getD (false,0)) y.mod y.nm y.args.length+cntEs y.args 1+noteF (bodyBad y.op y.body.length y.other.length)+cntB y.body (d+1)+cntB y.other (d+1)=c+noteM (decide (10<l.length))+cntSs (l.take (i+1)) d by rw [cntSs_take d hyi,cntS_eq,e3,e4]; simp only [Cnt.add_assoc',add_c0,c0_add]]
      exact Ea (i+1) (by omega) (by omega) (sc rfl (sc rfl (sc rfl (sc rfl (sc rfl sn))))) (fun _ h=>by have h:=h.fronti 2 rfl; have h:=h.fronti 2 rfl; have h:=h.fronti 2 rfl; have h:=Ws.keep (L:=[_,_,_]) h; exact h)
     ·
      have e4:(if 0<y.other.length then cntB y.other (d+1) else c0)=c0:=if_neg (by simpa using hc4)
      refine Ck (Eb (Et (Cr ?_)))
      refine V0 (Yi rfl rfl rfl (by omega)) ?_
      refine V0 (Ym rfl) ?_
      refine Ln ?_
      rw [show c+noteM (decide (10<l.length))+cntSs (l.take i) d+noteK (shS y.op).isNone+shapeC ((shS y.op).getD (false,0)) y.mod y.nm y.args.length+cntEs y.args 1+noteF (bodyBad y.op y.body.length y.other.length)+cntB y.body (d+1)=c+noteM (decide (10<l.length))+cntSs (l.take (i+1)) d by rw [cntSs_take d hyi,cntS_eq,e3,e4]; simp only [Cnt.add_assoc',add_c0,c0_add]]
      exact Ea (i+1) (by omega) (by omega) (sc rfl (sc rfl (sc rfl (sc rfl (sc rfl sn))))) (fun _ h=>by have h:=h.fronti 2 rfl; have h:=h.fronti 2 rfl; have h:=h.fronti 2 rfl; have h:=Ws.keep (L:=[_,_,_]) h; exact h)
    ·
     have e3:(if (inner y.op||decide (0<y.body.length))=true then cntB y.body (d+1) else c0)=c0:=if_neg (fun e=>by rw [show (inner y.op||decide (0<y.body.length))=false from hc3] at e; cases e)
     refine Ck (Et (Cs (Cr ?_)))
     refine V0 (Yf fo104_5 rfl) ?_
     refine V0 (Yd 3 rfl rfl rfl na37) ?_
     refine V0 (Yn es37 rfl) ?_
     refine V0 (yl_gt rfl rfl) ?_
     rw [int_lt0]
     refine Ln (Et ?_)
     refine Cc rfl (fun hc4=>?_) (fun hc4=>?_)
     ·
      have e4:(if 0<y.other.length then cntB y.other (d+1) else c0)=cntB y.other (d+1):=if_pos (by simpa using hc4)
      refine Cr ?_
      refine V0 (Ym rfl) ?_
      refine V0 (Yf fo104_5 rfl) ?_
      refine V0 (Yd 3 rfl rfl rfl na37) ?_
      refine V0 (Ym rfl) ?_
      refine V0 (Yi rfl rfl rfl (by omega)) ?_
      refine Lf 2 rfl ?_
      refine Lf 2 rfl ?_
      refine Lf 2 rfl ?_
      refine WL.callw0 [_,_,_] _ [blk vb (.cells #[.int .i64 0,.int .i64 ((c+noteM (decide (10<l.length))+cntSs (l.take i) d+noteK (shS y.op).isNone+shapeC ((shS y.op).getD (false,0)) y.mod y.nm y.args.length+cntEs y.args 1+noteF (bodyBad y.op y.body.length y.other.length)+cntB y.other (d+1)).f:Int),.int .i64 ((c+noteM (decide (10<l.length))+cntSs (l.take i) d+noteK (shS y.op).isNone+shapeC ((shS y.op).getD (false,0)) y.mod y.nm y.args.length+cntEs y.args 1+noteF (bodyBad y.op y.body.length y.other.length)+cntB y.other (d+1)).m:Int),.int .i64 0,.int .i64 ((c+noteM (decide (10<l.length))+cntSs (l.take i) d+noteK (shS y.op).isNone+shapeC ((shS y.op).getD (false,0)) y.mod y.nm y.args.length+cntEs y.args 1+noteF (bodyBad y.op y.body.length y.other.length)+cntB y.other (d+1)).k:Int),.int .i64 0,.int .i64 0,.int .i64 0,.int .i64 0,.int .i64 0,.map (some be),.map (some bs)] 76 (0,0)),blk be (gobj kI (exprsK 9) 15),blk bs (gobj kI stmtsK 7)] (.inl rfl) rfl en42 rfl rfl [H] (by simp) (fun w hw=>by
          have:=ih k' (by omega) y.other y3 m3 (d+1) (c+noteM (decide (10<l.length))+cntSs (l.take i) d+noteK (shS y.op).isNone+shapeC ((shS y.op).getD (false,0)) y.mod y.nm y.args.length+cntEs y.args 1+noteF (bodyBad y.op y.body.length y.other.length)) w hs3 hb7 hw
          exact this) ?_
      refine Ln (Eb (Et (Cr ?_)))
      refine V0 (Yi rfl rfl rfl (by omega)) ?_
      refine V0 (Ym rfl) ?_
      refine Ln ?_
      rw [show c+noteM (decide (10<l.length))+cntSs (l.take i) d+noteK (shS y.op).isNone+shapeC ((shS y.op).getD (false,0)) y.mod y.nm y.args.length+cntEs y.args 1+noteF (bodyBad y.op y.body.length y.other.length)+cntB y.other (d+1)=c+noteM (decide (10<l.length))+cntSs (l.take (i+1)) d by rw [cntSs_take d hyi,cntS_eq,e3,e4]; simp only [Cnt.add_assoc',add_c0,c0_add]]
      exact Ea (i+1) (by omega) (by omega) (sc rfl (sc rfl (sc rfl (sc rfl (sc rfl sn))))) (fun _ h=>by have h:=h.fronti 2 rfl; have h:=h.fronti 2 rfl; have h:=h.fronti 2 rfl; have h:=Ws.keep (L:=[_,_,_]) h; exact h)
     ·
      have e4:(if 0<y.other.length then cntB y.other (d+1) else c0)=c0:=if_neg (by simpa using hc4)
      refine Ck (Eb (Et (Cr ?_)))
      refine V0 (Yi rfl rfl rfl (by omega)) ?_
      refine V0 (Ym rfl) ?_
      refine Ln ?_
      rw [show c+noteM (decide (10<l.length))+cntSs (l.take i) d+noteK (shS y.op).isNone+shapeC ((shS y.op).getD (false,0)) y.mod y.nm y.args.length+cntEs y.args 1+noteF (bodyBad y.op y.body.length y.other.length)=c+noteM (decide (10<l.length))+cntSs (l.take (i+1)) d by rw [cntSs_take d hyi,cntS_eq,e3,e4]; simp only [Cnt.add_assoc',add_c0,c0_add]]
      exact Ea (i+1) (by omega) (by omega) (sc rfl (sc rfl (sc rfl (sc rfl (sc rfl sn))))) (fun _ h=>by have h:=h.fronti 2 rfl; have h:=h.fronti 2 rfl; have h:=h.fronti 2 rfl; have h:=Ws.keep (L:=[_,_,_]) h; exact h)
  ·
   have hge2:¬i<l.length:=by simpa using hc1
   rw [List.take_of_length_le (by omega),Cnt.add_assoc',←cntB_eq hd]
   refine Ce (Ex (Ex (Ebh ?_)))
   refine WE.end0 rfl fun w' hw=>?_
   exact ⟨rfl,hw⟩
end Go.Proofs.Ytinnlppbkhhoiaa
end
section
namespace Go.Proofs.Ytinnlppbkhhoiaa
open Go.Bw
set_option linter.unusedVariables false
set_option linter.unusedSimpArgs false
theorem wD_take:∀(l:List TDecl) (i:Nat),wD (l.take i)≤wD l
 | [],i=>by simp
 | x::r,0=>by simp [wD]
 | x::r,i+1=>by have:=wD_take r i; simp only [List.take_succ_cons,wD]; omega
theorem wP_take:∀(l:List TProc) (i:Nat),wP (l.take i)≤wP l
 | [],i=>by simp
 | x::r,0=>by simp [wP]
 | x::r,i+1=>by have:=wP_take r i; simp only [List.take_succ_cons,wP]; omega
theorem wP_upto {l:List TProc} {i:Nat} {p:TProc} (h:l[i]? = some p):wP (l.take i)+(1+p.nm.length+wN p.params+wN p.locs+wSs p.body)≤wP l:=by
 have h2:=wP_take l (i+1)
 rw [take_snoc h] at h2
 have:∀a b:List TProc,wP (a++b)=wP a+wP b:=by
   intro a b
   induction a with
   | nil=>simp [wP]
   | cons y a ih=>simp only [List.cons_append,wP,ih]; omega
 rw [this] at h2
 simp only [wP] at h2
 omega
theorem declsC_app:∀a b:List TDecl,declsC (a++b)=declsC a+declsC b
 | [],b=>by apply Cnt.ext'<;>simp [Cnt.add_f,Cnt.add_m,Cnt.add_k,declsC,c0]
 | x::a,b=>by
   rw [List.cons_append,show ∀q,declsC (x::q)=declC x+declsC q from fun _=>rfl,declsC_app a b,show ∀q,declsC (x::q)=declC x+declsC q from fun _=>rfl,Cnt.add_assoc']
theorem declsC_take {l:List TDecl} {i:Nat} {s:TDecl} (h:l[i]? = some s):declsC (l.take (i+1))=declsC (l.take i)+declC s:=by rw [take_snoc h,declsC_app]; rfl
theorem procsC_app:∀a b:List TProc,procsC (a++b)=procsC a+procsC b
 | [],b=>by apply Cnt.ext'<;>simp [Cnt.add_f,Cnt.add_m,Cnt.add_k,procsC,c0]
 | x::a,b=>by
   rw [List.cons_append,show ∀q,procsC (x::q)=procC x+procsC q from fun _=>rfl,procsC_app a b,show ∀q,procsC (x::q)=procC x+procsC q from fun _=>rfl,Cnt.add_assoc']
theorem procsC_take {l:List TProc} {i:Nat} {s:TProc} (h:l[i]? = some s):procsC (l.take (i+1))=procsC (l.take i)+procC s:=by rw [take_snoc h,procsC_app]; rfl
theorem int_lt4 (n:Nat):decide ((4:Int)<(n:Int))=decide (4<n):=by rw [Bool.eq_iff_iff]; simp; omega
theorem int_lt6 (n:Nat):decide ((6:Int)<(n:Int))=decide (6<n):=by rw [Bool.eq_iff_iff]; simp; omega
def eN (i:Nat):Nat:=if i=0 then 4 else if i=1 then 2 else 1
def cE (c:Cnt) (i:Nat):Nat:=if i=0 then c.k else if i=1 then c.m else c.f
theorem eN_get {i:Nat} (h:i<3):(#[.int .i64 4,.int .i64 2,.int .i64 1]:Array Value)[i]? = some (.int .i64 (eN i:Int)):=by
 match i,h with
 | 0,_=>rfl
 | 1,_=>rfl
 | 2,_=>rfl
theorem eN_lt (i:Nat):eN i<10:=by unfold eN; split; omega; split<;>omega
theorem found_get {c:Cnt} {be bs i:Nat} (h:i<3) {T:TypeId} {fz:Nat×Nat}:cellIn (.cells #[.int .i64 0,.int .i64 (c.f:Int),.int .i64 (c.m:Int),.int .i64 0,.int .i64 (c.k:Int),.int .i64 0,.int .i64 0,.int .i64 0,.int .i64 0,.int .i64 0,.map (some be),.map (some bs)] T fz) (0+0+eN i*1)=some (.int .i64 (cE c i:Int)):=by
 match i,h with
 | 0,_=>rfl
 | 1,_=>rfl
 | 2,_=>rfl
theorem err_at {c:Cnt} {i:Nat} (h:i<3) (h0:∀j,j<i→cE c j=0) (h1:0<cE c i):(eN i:Int)=errC c:=by
 match i,h,h0,h1 with
 | 0,_,_,h1=>unfold errC; rw [if_pos (show 0<c.k from h1)]; rfl
 | 1,_,h0,h1=>have:=h0 0 (by omega); unfold errC; rw [if_neg (by simp [cE] at this; omega),if_pos (show 0<c.m from h1)]; rfl
 | 2,_,h0,h1=>have a:=h0 0 (by omega); have b:=h0 1 (by omega); unfold errC; rw [if_neg (by simp [cE] at a; omega),if_neg (by simp [cE] at b; omega),if_pos (show 0<c.f from h1)]; rfl
theorem err_none {c:Cnt} (h:∀j,j<3→cE c j=0):errC c=0:=by
 have a:=h 0 (by omega); have b:=h 1 (by omega); have d:=h 2 (by omega)
 simp [cE] at a b d
 unfold errC
 rw [if_neg (by omega),if_neg (by omega),if_neg (by omega)]
theorem en37:Enters Try.prog 37:=enters_of Try.func37 (by kernel_rfl) rfl
theorem en38:Enters Try.prog 38:=enters_of Try.func38 (by kernel_rfl) rfl
theorem pl76:placesP Try.prog 76=some [(0,10),(10,1),(11,1)]:=by kernel_rfl
theorem zr76:zeroOf Try.prog 76=some (.agg #[.int .i64 0,.int .i64 0,.int .i64 0,.int .i64 0,.int .i64 0,.int .i64 0,.int .i64 0,.int .i64 0,.int .i64 0,.int .i64 0,.map none,.map none]):=by kernel_rfl
theorem fo39_0:fieldOff Try.prog 39 0=some 0:=by kernel_rfl
theorem fo39_1:fieldOff Try.prog 39 1=some 1:=by kernel_rfl
theorem na27:nonAgg Try.prog 27=true:=by kernel_rfl
theorem fo39_2:fieldOff Try.prog 39 2=some 2:=by kernel_rfl
theorem na35:nonAgg Try.prog 35=true:=by kernel_rfl
theorem es35:elemSz Try.prog 35=some 4:=by kernel_rfl
theorem fo39_3:fieldOff Try.prog 39 3=some 3:=by kernel_rfl
theorem na36:nonAgg Try.prog 36=true:=by kernel_rfl
theorem es36:elemSz Try.prog 36=some 5:=by kernel_rfl
theorem ag80:aggOf Try.prog 80=some 4:=by kernel_rfl
theorem zr80:zeroOf Try.prog 80=some (.agg #[.int .i64 0,st [],.bool false,.int .i64 0]):=by kernel_rfl
theorem sz80:sizeP Try.prog 80=some 4:=by kernel_rfl
theorem en41:Enters Try.prog 41:=enters_of Try.func41 (by kernel_rfl) rfl
theorem ag83:aggOf Try.prog 83=some 5:=by kernel_rfl
theorem zr83:zeroOf Try.prog 83=some (.agg #[st [],.bool false,.slice none 0 0,.slice none 0 0,.slice none 0 0]):=by kernel_rfl
theorem sz83:sizeP Try.prog 83=some 5:=by kernel_rfl
theorem fo83_0:fieldOff Try.prog 83 0=some 0:=by kernel_rfl
theorem fo83_2:fieldOff Try.prog 83 2=some 2:=by kernel_rfl
theorem fo83_3:fieldOff Try.prog 83 3=some 3:=by kernel_rfl
theorem fo83_4:fieldOff Try.prog 83 4=some 4:=by kernel_rfl
theorem fo39_4:fieldOff Try.prog 39 4=some 4:=by kernel_rfl
theorem ar85:arrP Try.prog 85=some (3,1):=by kernel_rfl
theorem zr85:zeroOf Try.prog 85=some (.agg #[.int .i64 0,.int .i64 0,.int .i64 0]):=by kernel_rfl
theorem ara85:arr1 Try.prog 85=some 3:=by kernel_rfl
theorem treeCheck_any (H:View) (ke ks:Nat) (r:MAt) (m:TMod) (w:World) (hH:Le H w) (hm:RdM ke ks H r m) (hb:wM m≤9007199254740992) :
   Calls Try.prog 27 #[.agg (modV m r).toArray] w fun e w'=>e = .returned (.int .i64 (checkM m))∧Ext w w':=by
 have hb1:=cntN1_le m.nm
 have hb2:=cntN_le m.uses
 have hb3:=noteM_tot ((decide (3<m.uses.length)||decide (10<m.decls.length))||decide (6<m.procs.length))
 have hb4:=declsC_le m.decls
 have hb5:=procsC_le m.procs
 have hb6:=cntB_le m.main 1
 have hwM:wM m=1+m.nm.length+wN m.uses+wD m.decls+wP m.procs+wSs m.main:=rfl
 have hz:c0.tot=0:=rfl
 have hl1:=wN_len m.uses
 have cu:=hm.uses.cap
 have xu:=hm.uses.max
 have cd:=hm.decls.cap
 have xd:=hm.decls.max
 have cp:=hm.procs.cap
 have xp:=hm.procs.max
 have hbd:∀i,(declsC (m.decls.take i)).tot≤8*wD m.decls:=fun i=>by have:=declsC_le (m.decls.take i); have:=wD_take m.decls i; omega
 have hbp:∀i,(procsC (m.procs.take i)).tot≤8*wP m.procs:=fun i=>by have:=procsC_le (m.procs.take i); have:=wP_take m.procs i; omega
 have hk1:(c0+cntN [m.nm]).tot+16+m.uses.length≤1152921504606846976:=by simp only [Cnt.tot_add]; omega
 have hk2:(c0+cntN [m.nm]+cntN m.uses).tot+16+m.uses.length≤1152921504606846976:=by simp only [Cnt.tot_add]; omega
 have hk3:(c0+cntN [m.nm]+cntN m.uses+noteM ((decide (3<m.uses.length)||decide (10<m.decls.length))||decide (6<m.procs.length))).tot+16+m.uses.length≤1152921504606846976:=by simp only [Cnt.tot_add]; omega
 have hk4:(c0+cntN [m.nm]+cntN m.uses+noteM ((decide (3<m.uses.length)||decide (10<m.decls.length))||decide (6<m.procs.length))+declsC m.decls).tot+16+m.uses.length≤1152921504606846976:=by simp only [Cnt.tot_add]; omega
 have hk5:(c0+cntN [m.nm]+cntN m.uses+noteM ((decide (3<m.uses.length)||decide (10<m.decls.length))||decide (6<m.procs.length))+declsC m.decls+procsC m.procs).tot+16+8*wSs m.main≤1152921504606846976:=by simp only [Cnt.tot_add]; omega
 refine enter Try.func27 rfl 106 rfl rfl ?_
 refine CWd (W':=Ws w [] [] [H]) (fun _ e=>by subst e; exact Ws.init (by simp [hH])) ?_
 refine Cs (Cr ?_)
 refine WL.box (.inl rfl) rfl rfl fun b1=>?_
 refine V0 (Ya rfl) ?_
 refine Ln (Et (Cs (Cr ?_)))
 refine WL.calln (ι:=Nat) (.inl rfl) rfl en37 rfl (fun b=>.map (some b)) (fun b=>[blk b (gobj kI (exprsK 9) 15)]) (fun _=>True) (fun w hw=>(exprs_any w).mono fun e w' h=>by
     obtain ⟨b,h1,h2⟩:=h
     exact ⟨b,h1,trivial,h2⟩) ?_
 intro be _
 refine WL.calln (ι:=Nat) (.inl rfl) rfl en38 rfl (fun b=>.map (some b)) (fun b=>[blk b (gobj kI stmtsK 7)]) (fun _=>True) (fun w hw=>(stmts_any w).mono fun e w' h=>by
     obtain ⟨b,h1,h2⟩:=h
     exact ⟨b,h1,trivial,h2⟩) ?_
 intro bs _
 refine V0 (Yb zr76 pl76 rfl rfl) ?_
 refine WL.box (.inl rfl) rfl rfl fun b13=>?_
 refine Lrb 0 (.cells #[.int .i64 0,.int .i64 ((c0).f:Int),.int .i64 ((c0).m:Int),.int .i64 0,.int .i64 ((c0).k:Int),.int .i64 0,.int .i64 0,.int .i64 0,.int .i64 0,.int .i64 0,.map (some be),.map (some bs)] 76 (0,0)) rfl rfl ?_
 refine V0 (Ya rfl) ?_
 refine Ln (Et (Cs (Cr ?_)))
 refine V0 (Ym rfl) ?_
 refine V0 (Yf fo39_0 rfl) ?_
 refine V0 (Yd 3 rfl rfl rfl na9) ?_
 refine Lb (.inl rfl) rfl el27 rfl rfl rfl rfl fun b17=>?_
 refine Lsv (T:=9) (m:=1) 0 [m.nm] rfl rfl (show 1≤1 by decide) (by decide) fun H17 hH17=>?_
 refine Lf 0 rfl ?_
 refine WL.callw0 [_] _ [blk b13 (.cells #[.int .i64 0,.int .i64 ((c0+cntN [m.nm]).f:Int),.int .i64 ((c0+cntN [m.nm]).m:Int),.int .i64 0,.int .i64 ((c0+cntN [m.nm]).k:Int),.int .i64 0,.int .i64 0,.int .i64 0,.int .i64 0,.int .i64 0,.map (some be),.map (some bs)] 76 (0,0))] (.inl rfl) rfl en39 rfl rfl [H17] (by simp) (fun w hw=>names_any b13 be bs H17 _ _ [m.nm] (c0) w hH17 (by show c0.tot+1≤_; omega) hw) ?_
 refine Ln (Et (Cs (Cr ?_)))
 refine V0 (Ym rfl) ?_
 refine V0 (Yf fo39_1 rfl) ?_
 refine V0 (Yd 3 rfl rfl rfl na27) ?_
 refine Lf 0 rfl ?_
 refine WL.callw0 [_] _ [blk b13 (.cells #[.int .i64 0,.int .i64 ((c0+cntN [m.nm]+cntN m.uses).f:Int),.int .i64 ((c0+cntN [m.nm]+cntN m.uses).m:Int),.int .i64 0,.int .i64 ((c0+cntN [m.nm]+cntN m.uses).k:Int),.int .i64 0,.int .i64 0,.int .i64 0,.int .i64 0,.int .i64 0,.map (some be),.map (some bs)] 76 (0,0))] (.inl rfl) rfl en39 rfl rfl [H] (by simp) (fun w hw=>names_any b13 be bs H r.a1 r.c1 m.uses (c0+cntN [m.nm]) w hm.uses (by omega) hw) ?_
 refine Ln (Et (Cs (Cr ?_)))
 refine V0 (Ym rfl) ?_
 refine V0 (Yf fo39_1 rfl) ?_
 refine V0 (Yd 3 rfl rfl rfl na27) ?_
 refine V0 (Yn es27 rfl) ?_
 refine V0 (yl_gt rfl rfl) ?_
 rw [int_lt3]
 refine V0 (Ym rfl) ?_
 apply WL.or 4 rfl rfl rfl rfl (.inl rfl) rfl rfl rfl rfl rfl
 ·
  intro hg0
  refine Lv (.g rfl rfl rfl) rfl (Yf fo39_2 rfl) ?_
  refine Lv (.g rfl rfl rfl) rfl (Yd 3 rfl rfl rfl na35) ?_
  refine Lv (.g rfl rfl rfl) rfl (Yn es35 rfl) ?_
  refine Lv (.g rfl rfl rfl) rfl (yl_gt rfl rfl) ?_
  rw [int_lt10]
  exact Gt 4 rfl rfl rfl
 refine V0 (Ym rfl) ?_
 apply WL.or 4 rfl rfl rfl rfl (.inl rfl) rfl rfl rfl rfl rfl
 ·
  intro hg1
  refine Lv (.g rfl rfl rfl) rfl (Yf fo39_3 rfl) ?_
  refine Lv (.g rfl rfl rfl) rfl (Yd 3 rfl rfl rfl na36) ?_
  refine Lv (.g rfl rfl rfl) rfl (Yn es36 rfl) ?_
  refine Lv (.g rfl rfl rfl) rfl (yl_gt rfl rfl) ?_
  rw [int_lt6]
  exact Gt 4 rfl rfl rfl
 refine Lf 0 rfl ?_
 refine WL.callw0 [_] _ [blk b13 (.cells #[.int .i64 0,.int .i64 ((c0+cntN [m.nm]+cntN m.uses+noteM ((decide (3<m.uses.length)||decide (10<m.decls.length))||decide (6<m.procs.length))).f:Int),.int .i64 ((c0+cntN [m.nm]+cntN m.uses+noteM ((decide (3<m.uses.length)||decide (10<m.decls.length))||decide (6<m.procs.length))).m:Int),.int .i64 0,.int .i64 ((c0+cntN [m.nm]+cntN m.uses+noteM ((decide (3<m.uses.length)||decide (10<m.decls.length))||decide (6<m.procs.length))).k:Int),.int .i64 0,.int .i64 0,.int .i64 0,.int .i64 0,.int .i64 0,.map (some be),.map (some bs)] 76 (0,0))] (.inl rfl) rfl en40 rfl rfl [] (by simp) (fun w hw=>note2_any b13 be bs (c0+cntN [m.nm]+cntN m.uses) ((decide (3<m.uses.length)||decide (10<m.decls.length))||decide (6<m.procs.length)) w (by omega) hw) ?_
 refine Ln (Et (Cs (Cs (Cr ?_))))
 refine V0 (Yf fo39_2 rfl) ?_
 refine V0 (Yd 3 rfl rfl rfl na35) ?_
 refine V0 (Yn es35 rfl) ?_
 refine V0 (Ym rfl) ?_
 refine Ln (Et (Cb ?_))
 refine CK (ι:=Nat) (fun i=>[(44,.int .i64 (i:Int))]) [(1,_),(2,_),(3,_),(42,_),(43,_)] (fun i=>Ws w [] [blk b13 (.cells #[.int .i64 0,.int .i64 ((c0+cntN [m.nm]+cntN m.uses+noteM ((decide (3<m.uses.length)||decide (10<m.decls.length))||decide (6<m.procs.length))+declsC (m.decls.take i)).f:Int),.int .i64 ((c0+cntN [m.nm]+cntN m.uses+noteM ((decide (3<m.uses.length)||decide (10<m.decls.length))||decide (6<m.procs.length))+declsC (m.decls.take i)).m:Int),.int .i64 0,.int .i64 ((c0+cntN [m.nm]+cntN m.uses+noteM ((decide (3<m.uses.length)||decide (10<m.decls.length))||decide (6<m.procs.length))+declsC (m.decls.take i)).k:Int),.int .i64 0,.int .i64 0,.int .i64 0,.int .i64 0,.int .i64 0,.map (some be),.map (some bs)] 76 (0,0)),blk be (gobj kI (exprsK 9) 15),blk bs (gobj kI stmtsK 7),blk b1 (.cells (modV m r).toArray 39 (0,0))] [H]) (fun i=>i≤m.decls.length) (fun i=>m.decls.length-i) 0 (Nat.zero_le _) (sc rfl (sc rfl (sc rfl (sc rfl (sc rfl (sc rfl sn)))))) (fun _ h=>by have h:=h.fronti 3 rfl; have h:=h.fronti 2 rfl; have h:=h.fronti 3 rfl; have h:=h.fronti 3 rfl; have h:=Ws.drops h (Vs':=[H]) (by simp); exact h) ?_
 intro i hi
 refine Cs (Cr ?_)
 refine V0 (yl_lt rfl rfl) ?_
 refine Ln (Et (Cs ?_))
 refine Cc rfl (fun hc0=>?_) (fun hc0=>?_)
 ·
  have hlt:i<m.decls.length:=by simpa using hc0
  obtain ⟨d,hdi⟩:∃q,m.decls[i]? = some q:=⟨_,List.getElem?_eq_getElem hlt⟩
  obtain ⟨pbd,pod,had,hrd⟩:=hm.decls.elt i d hdi
  have hrd:RdC H pbd (pod+i*4) d.cells:=hrd
  have e2:c0+cntN [m.nm]+cntN m.uses+noteM ((decide (3<m.uses.length)||decide (10<m.decls.length))||decide (6<m.procs.length))+declsC (m.decls.take i)+declC d=c0+cntN [m.nm]+cntN m.uses+noteM ((decide (3<m.uses.length)||decide (10<m.decls.length))||decide (6<m.procs.length))+declsC (m.decls.take (i+1)):=by rw [declsC_take hdi,←Cnt.add_assoc']
  have hbi:=hbd i
  have hki:(c0+cntN [m.nm]+cntN m.uses+noteM ((decide (3<m.uses.length)||decide (10<m.decls.length))||decide (6<m.procs.length))+declsC (m.decls.take i)).tot+4≤4611686018427387904:=by simp only [Cnt.tot_add]; omega
  refine Ck (Et (Cs (Cb (Cs (Cr ?_)))))
  refine V0 (Yo es35 rfl rfl had (by omega)) ?_
  refine V0 (yl_lda 0 ag80 rfl rfl rfl (hrd)) ?_
  refine WL.alloc (.inl rfl) rfl zr80 fun b5=>?_
  refine Lst 0 (.inl rfl) rfl rfl rfl sz80 rfl rfl rfl ?_
  refine Ln (Et (Cr ?_))
  refine V0 (Ym rfl) ?_
  refine V0 (Yda 0 rfl rfl ag80 rfl) ?_
  refine Lf 1 rfl ?_
  refine WL.callw0 [_] _ [blk b13 (.cells #[.int .i64 0,.int .i64 ((c0+cntN [m.nm]+cntN m.uses+noteM ((decide (3<m.uses.length)||decide (10<m.decls.length))||decide (6<m.procs.length))+declsC (m.decls.take i)+declC d).f:Int),.int .i64 ((c0+cntN [m.nm]+cntN m.uses+noteM ((decide (3<m.uses.length)||decide (10<m.decls.length))||decide (6<m.procs.length))+declsC (m.decls.take i)+declC d).m:Int),.int .i64 0,.int .i64 ((c0+cntN [m.nm]+cntN m.uses+noteM ((decide (3<m.uses.length)||decide (10<m.decls.length))||decide (6<m.procs.length))+declsC (m.decls.take i)+declC d).k:Int),.int .i64 0,.int .i64 0,.int .i64 0,.int .i64 0,.int .i64 0,.map (some be),.map (some bs)] 76 (0,0))] (.inl rfl) rfl en41 rfl rfl [] (by simp) (fun w hw=>vdecl_any b13 be bs d (c0+cntN [m.nm]+cntN m.uses+noteM ((decide (3<m.uses.length)||decide (10<m.decls.length))||decide (6<m.procs.length))+declsC (m.decls.take i)) w (by omega) hw) ?_
  refine Ln (Eb (Et (Cr ?_)))
  refine V0 (Yi rfl rfl rfl (by omega)) ?_
  refine V0 (Ym rfl) ?_
  refine Ln ?_
  rw [e2]
  exact Ea (i+1) (by omega) (by omega) (sc rfl (sc rfl (sc rfl (sc rfl (sc rfl (sc rfl sn)))))) (fun _ h=>by have h:=h.fronti 4 rfl; have h:=h.fronti 4 rfl; have h:=h.fronti 4 rfl; have h:=h.fronti 3 rfl; have h:=Ws.keep (L:=[_,_,_,_]) h; exact h)
 ·
  have hge:¬i<m.decls.length:=by simpa using hc0
  rw [List.take_of_length_le (by omega)]
  refine Ce (Ex (Ex (Ebh (Et (Cs ?_)))))
  refine Cs (Cr ?_)
  refine V0 (Yf fo39_3 rfl) ?_
  refine V0 (Yd 3 rfl rfl rfl na36) ?_
  refine V0 (Yn es36 rfl) ?_
  refine V0 (Ym rfl) ?_
  refine Ln (Et (Cb ?_))
  refine CK (ι:=Nat) (fun j=>[(55,.int .i64 (j:Int))]) [(1,_),(2,_),(3,_),(53,_),(54,_)] (fun j=>Ws w [] [blk b13 (.cells #[.int .i64 0,.int .i64 ((c0+cntN [m.nm]+cntN m.uses+noteM ((decide (3<m.uses.length)||decide (10<m.decls.length))||decide (6<m.procs.length))+declsC m.decls+procsC (m.procs.take j)).f:Int),.int .i64 ((c0+cntN [m.nm]+cntN m.uses+noteM ((decide (3<m.uses.length)||decide (10<m.decls.length))||decide (6<m.procs.length))+declsC m.decls+procsC (m.procs.take j)).m:Int),.int .i64 0,.int .i64 ((c0+cntN [m.nm]+cntN m.uses+noteM ((decide (3<m.uses.length)||decide (10<m.decls.length))||decide (6<m.procs.length))+declsC m.decls+procsC (m.procs.take j)).k:Int),.int .i64 0,.int .i64 0,.int .i64 0,.int .i64 0,.int .i64 0,.map (some be),.map (some bs)] 76 (0,0)),blk be (gobj kI (exprsK 9) 15),blk bs (gobj kI stmtsK 7),blk b1 (.cells (modV m r).toArray 39 (0,0))] [H]) (fun j=>j≤m.procs.length) (fun j=>m.procs.length-j) 0 (Nat.zero_le _) (sc rfl (sc rfl (sc rfl (sc rfl (sc rfl (sc rfl sn)))))) (fun _ h=>h) ?_
  intro j hj
  refine Cs (Cr ?_)
  refine V0 (yl_lt rfl rfl) ?_
  refine Ln (Et (Cs ?_))
  refine Cc rfl (fun hc1=>?_) (fun hc1=>?_)
  ·
   have hlt:j<m.procs.length:=by simpa using hc1
   obtain ⟨p,hpi⟩:∃q,m.procs[j]? = some q:=⟨_,List.getElem?_eq_getElem hlt⟩
   obtain ⟨pbp,pop,hap,hrp⟩:=hm.procs.elt j p hpi
   obtain ⟨pa1,pc1,pa2,pc2,pa3,pc3,hrow,hs1,hs2,hs3⟩:=hrp
   have hup:=wP_upto hpi
   have hbj:=hbp j
   have hle:=procsC_le (m.procs.take j)
   have q1:=cntN1_le p.nm
   have q2:=cntN_le p.params
   have q3:=cntN_le p.locs
   have q4:=noteM_tot (decide (3<p.params.length)||decide (4<p.locs.length))
   have q5:=wN_len p.params
   have q6:=wN_len p.locs
   have c1_:=hs1.cap
   have x1_:=hs1.max
   have c2_:=hs2.cap
   have x2_:=hs2.max
   have e3:c0+cntN [m.nm]+cntN m.uses+noteM ((decide (3<m.uses.length)||decide (10<m.decls.length))||decide (6<m.procs.length))+declsC m.decls+procsC (m.procs.take j)+cntN [p.nm]+cntN p.params+cntN p.locs+noteM (decide (3<p.params.length)||decide (4<p.locs.length))+cntB p.body 1=c0+cntN [m.nm]+cntN m.uses+noteM ((decide (3<m.uses.length)||decide (10<m.decls.length))||decide (6<m.procs.length))+declsC m.decls+procsC (m.procs.take (j+1)):=by rw [procsC_take hpi,procC]; simp only [Cnt.add_assoc']
   have hq0:(c0+cntN [m.nm]+cntN m.uses+noteM ((decide (3<m.uses.length)||decide (10<m.decls.length))||decide (6<m.procs.length))+declsC m.decls+procsC (m.procs.take j)).tot+16+p.params.length+p.locs.length+8*wSs p.body≤1152921504606846976:=by simp only [Cnt.tot_add]; omega
   have hq1:(c0+cntN [m.nm]+cntN m.uses+noteM ((decide (3<m.uses.length)||decide (10<m.decls.length))||decide (6<m.procs.length))+declsC m.decls+procsC (m.procs.take j)+cntN [p.nm]).tot+16+p.params.length+p.locs.length+8*wSs p.body≤1152921504606846976:=by simp only [Cnt.tot_add]; omega
   have hq2:(c0+cntN [m.nm]+cntN m.uses+noteM ((decide (3<m.uses.length)||decide (10<m.decls.length))||decide (6<m.procs.length))+declsC m.decls+procsC (m.procs.take j)+cntN [p.nm]+cntN p.params).tot+16+p.params.length+p.locs.length+8*wSs p.body≤1152921504606846976:=by simp only [Cnt.tot_add]; omega
   have hq3:(c0+cntN [m.nm]+cntN m.uses+noteM ((decide (3<m.uses.length)||decide (10<m.decls.length))||decide (6<m.procs.length))+declsC m.decls+procsC (m.procs.take j)+cntN [p.nm]+cntN p.params+cntN p.locs).tot+16+p.params.length+p.locs.length+8*wSs p.body≤1152921504606846976:=by simp only [Cnt.tot_add]; omega
   have hq4:(c0+cntN [m.nm]+cntN m.uses+noteM ((decide (3<m.uses.length)||decide (10<m.decls.length))||decide (6<m.procs.length))+declsC m.decls+procsC (m.procs.take j)+cntN [p.nm]+cntN p.params+cntN p.locs+noteM (decide (3<p.params.length)||decide (4<p.locs.length))).tot+16+p.params.length+p.locs.length+8*wSs p.body≤1152921504606846976:=by simp only [Cnt.tot_add]; omega
   refine Ck (Et (Cs (Cb (Cs (Cr ?_)))))
   refine V0 (Yo es36 rfl rfl hap (by omega)) ?_
   refine V0 (yl_lda 0 ag83 rfl rfl rfl (hrow)) ?_
   refine WL.alloc (.inl rfl) rfl zr83 fun b7=>?_
   refine Lst 0 (.inl rfl) rfl rfl rfl sz83 rfl rfl rfl ?_
   refine Ln (Et (Cs (Cr ?_)))
   refine V0 (Ym rfl) ?_
   refine V0 (Yf fo83_0 rfl) ?_
   refine V0 (Yd 0 rfl rfl rfl na9) ?_
   refine Lb (.inl rfl) rfl el27 rfl rfl rfl rfl fun b62=>?_
   refine Lsv (T:=9) (m:=1) 0 [p.nm] rfl rfl (show 1≤1 by decide) (by decide) fun H62 hH62=>?_
   refine Lf 1 rfl ?_
   refine WL.callw0 [_] _ [blk b13 (.cells #[.int .i64 0,.int .i64 ((c0+cntN [m.nm]+cntN m.uses+noteM ((decide (3<m.uses.length)||decide (10<m.decls.length))||decide (6<m.procs.length))+declsC m.decls+procsC (m.procs.take j)+cntN [p.nm]).f:Int),.int .i64 ((c0+cntN [m.nm]+cntN m.uses+noteM ((decide (3<m.uses.length)||decide (10<m.decls.length))||decide (6<m.procs.length))+declsC m.decls+procsC (m.procs.take j)+cntN [p.nm]).m:Int),.int .i64 0,.int .i64 ((c0+cntN [m.nm]+cntN m.uses+noteM ((decide (3<m.uses.length)||decide (10<m.decls.length))||decide (6<m.procs.length))+declsC m.decls+procsC (m.procs.take j)+cntN [p.nm]).k:Int),.int .i64 0,.int .i64 0,.int .i64 0,.int .i64 0,.int .i64 0,.map (some be),.map (some bs)] 76 (0,0))] (.inl rfl) rfl en39 rfl rfl [H62] (by simp) (fun w hw=>names_any b13 be bs H62 _ _ [p.nm] (c0+cntN [m.nm]+cntN m.uses+noteM ((decide (3<m.uses.length)||decide (10<m.decls.length))||decide (6<m.procs.length))+declsC m.decls+procsC (m.procs.take j)) w hH62 (by show (c0+cntN [m.nm]+cntN m.uses+noteM ((decide (3<m.uses.length)||decide (10<m.decls.length))||decide (6<m.procs.length))+declsC m.decls+procsC (m.procs.take j)).tot+1≤_; omega) hw) ?_
   refine Ln (Et (Cs (Cr ?_)))
   refine V0 (Ym rfl) ?_
   refine V0 (Yf fo83_2 rfl) ?_
   refine V0 (Yd 1 rfl rfl rfl na27) ?_
   refine Lf 0 rfl ?_
   refine WL.callw0 [_] _ [blk b13 (.cells #[.int .i64 0,.int .i64 ((c0+cntN [m.nm]+cntN m.uses+noteM ((decide (3<m.uses.length)||decide (10<m.decls.length))||decide (6<m.procs.length))+declsC m.decls+procsC (m.procs.take j)+cntN [p.nm]+cntN p.params).f:Int),.int .i64 ((c0+cntN [m.nm]+cntN m.uses+noteM ((decide (3<m.uses.length)||decide (10<m.decls.length))||decide (6<m.procs.length))+declsC m.decls+procsC (m.procs.take j)+cntN [p.nm]+cntN p.params).m:Int),.int .i64 0,.int .i64 ((c0+cntN [m.nm]+cntN m.uses+noteM ((decide (3<m.uses.length)||decide (10<m.decls.length))||decide (6<m.procs.length))+declsC m.decls+procsC (m.procs.take j)+cntN [p.nm]+cntN p.params).k:Int),.int .i64 0,.int .i64 0,.int .i64 0,.int .i64 0,.int .i64 0,.map (some be),.map (some bs)] 76 (0,0))] (.inl rfl) rfl en39 rfl rfl [H] (by simp) (fun w hw=>names_any b13 be bs H pa1 pc1 p.params (c0+cntN [m.nm]+cntN m.uses+noteM ((decide (3<m.uses.length)||decide (10<m.decls.length))||decide (6<m.procs.length))+declsC m.decls+procsC (m.procs.take j)+cntN [p.nm]) w hs1 (by omega) hw) ?_
   refine Ln (Et (Cs (Cr ?_)))
   refine V0 (Ym rfl) ?_
   refine V0 (Yf fo83_3 rfl) ?_
   refine V0 (Yd 1 rfl rfl rfl na27) ?_
   refine Lf 0 rfl ?_
   refine WL.callw0 [_] _ [blk b13 (.cells #[.int .i64 0,.int .i64 ((c0+cntN [m.nm]+cntN m.uses+noteM ((decide (3<m.uses.length)||decide (10<m.decls.length))||decide (6<m.procs.length))+declsC m.decls+procsC (m.procs.take j)+cntN [p.nm]+cntN p.params+cntN p.locs).f:Int),.int .i64 ((c0+cntN [m.nm]+cntN m.uses+noteM ((decide (3<m.uses.length)||decide (10<m.decls.length))||decide (6<m.procs.length))+declsC m.decls+procsC (m.procs.take j)+cntN [p.nm]+cntN p.params+cntN p.locs).m:Int),.int .i64 0,.int .i64 ((c0+cntN [m.nm]+cntN m.uses+noteM ((decide (3<m.uses.length)||decide (10<m.decls.length))||decide (6<m.procs.length))+declsC m.decls+procsC (m.procs.take j)+cntN [p.nm]+cntN p.params+cntN p.locs).k:Int),.int .i64 0,.int .i64 0,.int .i64 0,.int .i64 0,.int .i64 0,.map (some be),.map (some bs)] 76 (0,0))] (.inl rfl) rfl en39 rfl rfl [H] (by simp) (fun w hw=>names_any b13 be bs H pa2 pc2 p.locs (c0+cntN [m.nm]+cntN m.uses+noteM ((decide (3<m.uses.length)||decide (10<m.decls.length))||decide (6<m.procs.length))+declsC m.decls+procsC (m.procs.take j)+cntN [p.nm]+cntN p.params) w hs2 (by omega) hw) ?_
   refine Ln (Et (Cs (Cr ?_)))
   refine V0 (Ym rfl) ?_
   refine V0 (Yf fo83_2 rfl) ?_
   refine V0 (Yd 1 rfl rfl rfl na27) ?_
   refine V0 (Yn es27 rfl) ?_
   refine V0 (yl_gt rfl rfl) ?_
   rw [int_lt3]
   refine V0 (Ym rfl) ?_
   apply WL.or 4 rfl rfl rfl rfl (.inl rfl) rfl rfl rfl rfl rfl
   ·
    intro hg2
    refine Lv (.g rfl rfl rfl) rfl (Yf fo83_3 rfl) ?_
    refine Lv (.g rfl rfl rfl) rfl (Yd 1 rfl rfl rfl na27) ?_
    refine Lv (.g rfl rfl rfl) rfl (Yn es27 rfl) ?_
    refine Lv (.g rfl rfl rfl) rfl (yl_gt rfl rfl) ?_
    rw [int_lt4]
    exact Gt 4 rfl rfl rfl
   refine Lf 0 rfl ?_
   refine WL.callw0 [_] _ [blk b13 (.cells #[.int .i64 0,.int .i64 ((c0+cntN [m.nm]+cntN m.uses+noteM ((decide (3<m.uses.length)||decide (10<m.decls.length))||decide (6<m.procs.length))+declsC m.decls+procsC (m.procs.take j)+cntN [p.nm]+cntN p.params+cntN p.locs+noteM (decide (3<p.params.length)||decide (4<p.locs.length))).f:Int),.int .i64 ((c0+cntN [m.nm]+cntN m.uses+noteM ((decide (3<m.uses.length)||decide (10<m.decls.length))||decide (6<m.procs.length))+declsC m.decls+procsC (m.procs.take j)+cntN [p.nm]+cntN p.params+cntN p.locs+noteM (decide (3<p.params.length)||decide (4<p.locs.length))).m:Int),.int .i64 0,.int .i64 ((c0+cntN [m.nm]+cntN m.uses+noteM ((decide (3<m.uses.length)||decide (10<m.decls.length))||decide (6<m.procs.length))+declsC m.decls+procsC (m.procs.take j)+cntN [p.nm]+cntN p.params+cntN p.locs+noteM (decide (3<p.params.length)||decide (4<p.locs.length))).k:Int),.int .i64 0,.int .i64 0,.int .i64 0,.int .i64 0,.int .i64 0,.map (some be),.map (some bs)] 76 (0,0))] (.inl rfl) rfl en40 rfl rfl [] (by simp) (fun w hw=>note2_any b13 be bs (c0+cntN [m.nm]+cntN m.uses+noteM ((decide (3<m.uses.length)||decide (10<m.decls.length))||decide (6<m.procs.length))+declsC m.decls+procsC (m.procs.take j)+cntN [p.nm]+cntN p.params+cntN p.locs) (decide (3<p.params.length)||decide (4<p.locs.length)) w (by omega) hw) ?_
   refine Ln (Et (Cr ?_))
   refine V0 (Ym rfl) ?_
   refine V0 (Yf fo83_4 rfl) ?_
   refine V0 (Yd 1 rfl rfl rfl na37) ?_
   refine Lf 3 rfl ?_
   refine Lf 3 rfl ?_
   refine Lf 2 rfl ?_
   refine WL.callw0 [_,_,_] _ [blk b13 (.cells #[.int .i64 0,.int .i64 ((c0+cntN [m.nm]+cntN m.uses+noteM ((decide (3<m.uses.length)||decide (10<m.decls.length))||decide (6<m.procs.length))+declsC m.decls+procsC (m.procs.take j)+cntN [p.nm]+cntN p.params+cntN p.locs+noteM (decide (3<p.params.length)||decide (4<p.locs.length))+cntB p.body 1).f:Int),.int .i64 ((c0+cntN [m.nm]+cntN m.uses+noteM ((decide (3<m.uses.length)||decide (10<m.decls.length))||decide (6<m.procs.length))+declsC m.decls+procsC (m.procs.take j)+cntN [p.nm]+cntN p.params+cntN p.locs+noteM (decide (3<p.params.length)||decide (4<p.locs.length))+cntB p.body 1).m:Int),.int .i64 0,.int .i64 ((c0+cntN [m.nm]+cntN m.uses+noteM ((decide (3<m.uses.length)||decide (10<m.decls.length))||decide (6<m.procs.length))+declsC m.decls+procsC (m.procs.take j)+cntN [p.nm]+cntN p.params+cntN p.locs+noteM (decide (3<p.params.length)||decide (4<p.locs.length))+cntB p.body 1).k:Int),.int .i64 0,.int .i64 0,.int .i64 0,.int .i64 0,.int .i64 0,.map (some be),.map (some bs)] 76 (0,0)),blk be (gobj kI (exprsK 9) 15),blk bs (gobj kI stmtsK 7)] (.inl rfl) rfl en42 rfl rfl [H] (by simp) (fun w hw=>vblock_any b13 be bs H ke ks (p.body) pa3 pc3 1 (c0+cntN [m.nm]+cntN m.uses+noteM ((decide (3<m.uses.length)||decide (10<m.decls.length))||decide (6<m.procs.length))+declsC m.decls+procsC (m.procs.take j)+cntN [p.nm]+cntN p.params+cntN p.locs+noteM (decide (3<p.params.length)||decide (4<p.locs.length))) w hs3 (by omega) hw) ?_
   refine Ln (Eb (Et (Cr ?_)))
   refine V0 (Yi rfl rfl rfl (by omega)) ?_
   refine V0 (Ym rfl) ?_
   refine Ln ?_
   rw [e3]
   exact Ea (j+1) (by omega) (by omega) (sc rfl (sc rfl (sc rfl (sc rfl (sc rfl (sc rfl sn)))))) (fun _ h=>by have h:=h.fronti 4 rfl; have h:=h.fronti 3 rfl; have h:=h.fronti 3 rfl; have h:=h.fronti 3 rfl; have h:=Ws.keep (L:=[_,_,_,_]) h; have h:=Ws.drops h (fun _ hm=>List.mem_append_right [_] hm); exact h)
  ·
   have hge2:¬j<m.procs.length:=by simpa using hc1
   rw [List.take_of_length_le (by omega)]
   refine Ce (Ex (Ex (Ebh (Et (Cs ?_)))))
   refine Cr ?_
   refine V0 (Ym rfl) ?_
   refine V0 (Yf fo39_4 rfl) ?_
   refine V0 (Yd 3 rfl rfl rfl na37) ?_
   refine Lf 2 rfl ?_
   refine Lf 2 rfl ?_
   refine Lf 2 rfl ?_
   refine WL.callw0 [_,_,_] _ [blk b13 (.cells #[.int .i64 0,.int .i64 ((c0+cntN [m.nm]+cntN m.uses+noteM ((decide (3<m.uses.length)||decide (10<m.decls.length))||decide (6<m.procs.length))+declsC m.decls+procsC m.procs+cntB m.main 1).f:Int),.int .i64 ((c0+cntN [m.nm]+cntN m.uses+noteM ((decide (3<m.uses.length)||decide (10<m.decls.length))||decide (6<m.procs.length))+declsC m.decls+procsC m.procs+cntB m.main 1).m:Int),.int .i64 0,.int .i64 ((c0+cntN [m.nm]+cntN m.uses+noteM ((decide (3<m.uses.length)||decide (10<m.decls.length))||decide (6<m.procs.length))+declsC m.decls+procsC m.procs+cntB m.main 1).k:Int),.int .i64 0,.int .i64 0,.int .i64 0,.int .i64 0,.int .i64 0,.map (some be),.map (some bs)] 76 (0,0)),blk be (gobj kI (exprsK 9) 15),blk bs (gobj kI stmtsK 7)] (.inl rfl) rfl en42 rfl rfl [H] (by simp) (fun w hw=>vblock_any b13 be bs H ke ks (m.main) r.a4 r.c4 1 (c0+cntN [m.nm]+cntN m.uses+noteM ((decide (3<m.uses.length)||decide (10<m.decls.length))||decide (6<m.procs.length))+declsC m.decls+procsC m.procs) w hm.main (by omega) hw) ?_
   refine Ln (Et (Cs (Cs (Cr ?_))))
   refine V0 (yl_builda zr85 ar85 rfl rfl) ?_
   refine V0 (Ym rfl) ?_
   refine Ln (Et (Cb ?_))
   refine CK (ι:=Nat) (fun i=>[(94,.int .i64 (i:Int))]) [(3,_),(93,_)] (fun i=>Ws w [] [blk b13 (.cells #[.int .i64 0,.int .i64 ((c0+cntN [m.nm]+cntN m.uses+noteM ((decide (3<m.uses.length)||decide (10<m.decls.length))||decide (6<m.procs.length))+declsC m.decls+procsC m.procs+cntB m.main 1).f:Int),.int .i64 ((c0+cntN [m.nm]+cntN m.uses+noteM ((decide (3<m.uses.length)||decide (10<m.decls.length))||decide (6<m.procs.length))+declsC m.decls+procsC m.procs+cntB m.main 1).m:Int),.int .i64 0,.int .i64 ((c0+cntN [m.nm]+cntN m.uses+noteM ((decide (3<m.uses.length)||decide (10<m.decls.length))||decide (6<m.procs.length))+declsC m.decls+procsC m.procs+cntB m.main 1).k:Int),.int .i64 0,.int .i64 0,.int .i64 0,.int .i64 0,.int .i64 0,.map (some be),.map (some bs)] 76 (0,0)),blk be (gobj kI (exprsK 9) 15),blk bs (gobj kI stmtsK 7),blk b1 (.cells (modV m r).toArray 39 (0,0))] [H]) (fun i=>i≤3∧∀j,j<i→cE (c0+cntN [m.nm]+cntN m.uses+noteM ((decide (3<m.uses.length)||decide (10<m.decls.length))||decide (6<m.procs.length))+declsC m.decls+procsC m.procs+cntB m.main 1) j=0) (fun i=>3-i) 0 ⟨Nat.zero_le _,by simp⟩ (sc rfl (sc rfl (sc rfl sn))) (fun _ h=>h) ?_
   intro i ⟨hi,hall⟩
   refine Cs (Cr ?_)
   refine V0 (yl_lt rfl rfl) ?_
   refine Ln (Et (Cs ?_))
   refine Cc rfl (fun hc2=>?_) (fun hc2=>?_)
   ·
    have hlt:i<3:=by simp at hc2; omega
    refine Ck (Et (Cs (Cb (Cs (Cr ?_)))))
    refine V0 (yl_ixa (i:=i) ara85 rfl rfl hlt (eN_get hlt)) ?_
    refine V0 (Ya rfl) ?_
    refine Ln (Et (Cs (Cr ?_)))
    refine V0 (Ym rfl) ?_
    refine V0 (Ym rfl) ?_
    refine V0 (yl_nil rfl) ?_
    refine V0 (Yf fo76_0 rfl) ?_
    refine V0 (yl_iar (i:=eN i) ar74 rfl rfl (eN_lt i)) ?_
    refine V0 (Yd 0 rfl rfl (found_get hlt) na3) ?_
    refine V0 (yl_gt rfl rfl) ?_
    refine Ln (Et ?_)
    refine Cc rfl (fun hc3=>?_) (fun hc3=>?_)
    ·
     have hpos:0<cE (c0+cntN [m.nm]+cntN m.uses+noteM ((decide (3<m.uses.length)||decide (10<m.decls.length))||decide (6<m.procs.length))+declsC m.decls+procsC m.procs+cntB m.main 1) i:=by simpa using hc3
     refine Cs (Cr ?_)
     refine V0 (Ym rfl) ?_
     refine V0 (Ya rfl) ?_
     refine Ln (Et (Crt (Ebr (Er (Er ?_)))))
     refine Ebr (Er ?_)
     refine WE.ret1 rfl rfl fun w' hw=>?_
     refine ⟨?_,hw.fr⟩
     rw [err_at hlt hall hpos,show c0+cntN [m.nm]+cntN m.uses+noteM ((decide (3<m.uses.length)||decide (10<m.decls.length))||decide (6<m.procs.length))+declsC m.decls+procsC m.procs+cntB m.main 1=modC m by rw [modC,c0_add]]
     rfl
    ·
     have hzero:cE (c0+cntN [m.nm]+cntN m.uses+noteM ((decide (3<m.uses.length)||decide (10<m.decls.length))||decide (6<m.procs.length))+declsC m.decls+procsC m.procs+cntB m.main 1) i=0:=by simp at hc3; omega
     refine Ck (Eb (Et (Cr ?_)))
     refine V0 (Yi rfl rfl rfl (by omega)) ?_
     refine V0 (Ym rfl) ?_
     refine Ln ?_
     exact Ea (i+1) (by omega) ⟨by omega,fun j hj=>by rcases Nat.lt_succ_iff_lt_or_eq.1 hj with h | rfl; exact hall j h; exact hzero⟩ (sc rfl (sc rfl (sc rfl sn))) (fun _ h=>h)
   ·
    have hge3:¬i<3:=by simp at hc2; omega
    refine Ce (Ex (Ex (Ebh (Et (Cs ?_)))))
    refine Cr ?_
    refine V0 (Ya rfl) ?_
    refine Ln (Et (Crt ?_))
    refine WE.ret1 rfl rfl fun w' hw=>?_
    refine ⟨?_,hw.fr⟩
    rw [checkM,show modC m=c0+cntN [m.nm]+cntN m.uses+noteM ((decide (3<m.uses.length)||decide (10<m.decls.length))||decide (6<m.procs.length))+declsC m.decls+procsC m.procs+cntB m.main 1 by rw [modC,c0_add],err_none fun j hj=>hall j (by omega)]
end Go.Proofs.Ytinnlppbkhhoiaa
end
section
namespace Go.Proofs.Ytinnlppbkhhoiaa
open Go.Bw
set_option linter.unusedVariables false
set_option linter.unusedSimpArgs false
structure TOk (l:Tk):Prop where
 all:AllOk l
 len:l.length≤4096
end Go.Proofs.Ytinnlppbkhhoiaa
end
section
namespace Go.Proofs.Ytinnlppbkhhoiaa
open Go.Bw
set_option linter.unusedVariables false
set_option linter.unusedSimpArgs false
abbrev XE:=TExpr×Option Addr×Nat
def XE.cells (e:XE):List Value:=exprV e.1 e.2.1 e.2.2
theorem XE.cells_len (e:XE):(XE.cells e).length=5:=rfl
def XEs (J:View) (f:Nat) (es:List XE):Prop:=∀e ∈ es,Sl (RdE f) 5 J e.2.1 e.2.2 e.1.args
theorem XEs.nil (J:View) (f:Nat):XEs J f []:=by intro e h; simp at h
theorem XEs.snoc {J J1 J2:View} {f:Nat} {es:List XE} {e:XE} (h:XEs J f es) (h1:VLe J J2) (h2:VLe J1 J2) (he:Sl (RdE f) 5 J1 e.2.1 e.2.2 e.1.args):XEs J2 f (es++[e]):=by
 intro x hx
 rcases List.mem_append.1 hx with hx | hx
 · exact (h x hx).imp fun b o y hy=>RdE_mono h1 (Nat.le_refl _) b o y hy
 · rw [List.mem_singleton] at hx
   subst hx
   exact he.imp fun b o y hy=>RdE_mono h2 (Nat.le_refl _) b o y hy
theorem slE_mv {H N:View} {f c:Nat} {a:Option Addr} {l:List TExpr} (h:Sl (RdE f) 5 H a c l) (hv:VLe H N):Sl (RdE f) 5 N a c l:=h.imp fun b o y hy=>RdE_mono hv (Nat.le_refl _) b o y hy
structure GA where
 es:List XE
 a:Option Addr
 c:Nat
 J:View
 r:Option Addr×Nat
 q:Tk
end Go.Proofs.Ytinnlppbkhhoiaa
end
section
namespace Go.Proofs.Ytinnlppbkhhoiaa
open Go.Bw
set_option linter.unusedVariables false
set_option linter.unusedSimpArgs false
structure SAt where
 s1:Option Addr×Nat
 s2:Option Addr×Nat
 s3:Option Addr×Nat
abbrev SX:=TStmt×SAt
def SX.cells (e:SX):List Value:=stmtV e.1 e.2.s1.1 e.2.s1.2 e.2.s2.1 e.2.s2.2 e.2.s3.1 e.2.s3.2
theorem SX.cells_len (e:SX):(SX.cells e).length=6:=rfl
structure SlS (f:Nat) (N:View) (x:TStmt) (p:SAt):Prop where
 args:Sl (RdE 7) 5 N p.s1.1 p.s1.2 x.args
 body:Sl (RdS 7 f) 6 N p.s2.1 p.s2.2 x.body
 other:Sl (RdS 7 f) 6 N p.s3.1 p.s3.2 x.other
theorem slS_mv {H N:View} {f c:Nat} {a:Option Addr} {l:List TStmt} (h:Sl (RdS 7 f) 6 H a c l) (hv:VLe H N):Sl (RdS 7 f) 6 N a c l:=h.imp fun b o y hy=>RdS_mono hv (Nat.le_refl _) (Nat.le_refl _) b o y hy
theorem SlS.mv {f:Nat} {H N:View} {x:TStmt} {p:SAt} (h:SlS f H x p) (hv:VLe H N):SlS f N x p:=⟨slE_mv h.args hv,slS_mv h.body hv,slS_mv h.other hv⟩
def SXs (J:View) (f:Nat) (es:List SX):Prop:=∀e ∈ es,SlS f J e.1 e.2
theorem SXs.nil (J:View) (f:Nat):SXs J f []:=by intro e h; simp at h
theorem SXs.snoc {J J1 J2:View} {f:Nat} {es:List SX} {e:SX} (h:SXs J f es) (h1:VLe J J2) (h2:VLe J1 J2) (he:SlS f J1 e.1 e.2):SXs J2 f (es++[e]):=by
 intro x hx
 rcases List.mem_append.1 hx with hx | hx
 · exact (h x hx).mv h1
 · rw [List.mem_singleton] at hx
   subst hx
   exact he.mv h2
structure GS where
 es:List SX
 a:Option Addr
 c:Nat
 J:View
 r:Option Addr×Nat
 q:Tk
end Go.Proofs.Ytinnlppbkhhoiaa
end
section
namespace Go.Proofs.Ytinnlppbkhhoiaa
open Go.Bw
set_option linter.unusedVariables false
set_option linter.unusedSimpArgs false
structure PAt where
 s1:Option Addr×Nat
 s2:Option Addr×Nat
 s3:Option Addr×Nat
abbrev PX:=TProc×PAt
def PX.cells (e:PX):List Value:=procV e.1 e.2.s1.1 e.2.s1.2 e.2.s2.1 e.2.s2.2 e.2.s3.1 e.2.s3.2
theorem PX.cells_len (e:PX):(PX.cells e).length=5:=rfl
structure SlP (N:View) (x:TProc) (p:PAt):Prop where
 params:Sl rdStr 1 N p.s1.1 p.s1.2 x.params
 locs:Sl rdStr 1 N p.s2.1 p.s2.2 x.locs
 body:Sl (RdS 7 6) 6 N p.s3.1 p.s3.2 x.body
theorem slStr_mv {H N:View} {c:Nat} {a:Option Addr} {l:List Tx} (h:Sl rdStr 1 H a c l) (hv:VLe H N):Sl rdStr 1 N a c l:=h.imp fun b o y hy=>rdStr_mono hv b o y hy
theorem SlP.mv {H N:View} {x:TProc} {p:PAt} (h:SlP H x p) (hv:VLe H N):SlP N x p:=⟨slStr_mv h.params hv,slStr_mv h.locs hv,slS_mv h.body hv⟩
def PXs (J:View) (es:List PX):Prop:=∀e ∈ es,SlP J e.1 e.2
theorem PXs.nil (J:View):PXs J []:=by intro e h; simp at h
theorem PXs.snoc {J J1 J2:View} {es:List PX} {e:PX} (h:PXs J es) (h1:VLe J J2) (h2:VLe J1 J2) (he:SlP J1 e.1 e.2):PXs J2 (es++[e]):=by
 intro x hx
 rcases List.mem_append.1 hx with hx | hx
 · exact (h x hx).mv h1
 · rw [List.mem_singleton] at hx
   subst hx
   exact he.mv h2
structure GN where
 ps:List Tx
 a:Option Addr
 c:Nat
 r:Option Addr×Nat
 q:Tk
structure GD where
 ds:List TDecl
 a:Option Addr
 c:Nat
 pub:Bool
 r:Option Addr×Nat
 q:Tk
structure GM where
 ps:List PX
 a:Option Addr
 c:Nat
 J:View
 pub:Bool
 r:Option Addr×Nat
 q:Tk
end Go.Proofs.Ytinnlppbkhhoiaa
end
section
namespace Go.Proofs.Ytinnlppbkhhoiaa
open Go.Bw
set_option linter.unusedVariables false
set_option linter.unusedSimpArgs false
structure GU where
 us:List Tx
 a:Option Addr
 c:Nat
 r:Option Addr×Nat
 q:Tk
end Go.Proofs.Ytinnlppbkhhoiaa
end
section
namespace Go.Proofs.Ytinnlppbkhhoiaa
open Go.Bw
set_option linter.unusedVariables false
set_option linter.unusedSimpArgs false
theorem str_one (s:Tx):(strC s).all (·.oneCell')=true:=rfl
theorem ag39:aggOf Try.prog 39=some 5:=by kernel_rfl
end Go.Proofs.Ytinnlppbkhhoiaa
end
section
namespace Go.Proofs.Ytinnlppbkhhoiaa
open Go.Bw
set_option linter.unusedVariables false
set_option linter.unusedSimpArgs false
abbrev SP:=Option Addr×Nat
end Go.Proofs.Ytinnlppbkhhoiaa
end
section
namespace Go.Proofs.Ytinnlppbkhhoiaa
open Go.Bw
set_option linter.unusedVariables false
set_option linter.unusedSimpArgs false
def rdMod (ke ks:Nat) (H:View) (b o:Nat) (m:TMod):Prop:=∃r:MAt,RdC H b o (modV m r)∧RdM ke ks H r m
structure GO where
 i:Nat
 M:List (GEnt (List UInt8))
 c:Nat
theorem orderE_many {l:List TMod} (h:4<l.length):orderE l=2:=by rw [orderE,if_pos h]
theorem orderE_mod {l:List TMod} {i:Nat} {m:TMod} (h4:¬4<l.length) (hi:l[i]? = some m) (h0:∀x ∈ l.take i,checkM x=0) (h:¬checkM m=0):orderE l=checkM m:=by
 rw [orderE,if_neg h4,ers_hit checkM hi (ers_zero.2 h0) h,er_ne h]
theorem orderE_rest {l:List TMod} (h4:¬4<l.length) (h0:∀x ∈ l,checkM x=0):orderE l=if twiceB (namesL l)=true then 6 else if usesOk l=true then 0 else 5:=by
 rw [orderE,if_neg h4,ers_zero.2 h0,er_0]
theorem mem_take_snoc {α:Type} {l:List α} {i:Nat} {x:α} {p:α→Prop} (hx:l[i]? = some x) (h:∀y ∈ l.take i,p y) (hp:p x):∀y ∈ l.take (i+1),p y:=by
 intro y hy
 rw [take_snoc hx] at hy
 rcases List.mem_append.1 hy with hy | hy
 · exact h y hy
 · rw [List.mem_singleton] at hy; subst hy; exact hp
theorem usesOk_no {l:List TMod} {m:TMod} {s:List UInt8} (hm:m ∈ l) (hs:s ∈ m.uses) (h:(placeL l s).isSome=false):usesOk l=false:=by
 unfold usesOk
 rw [List.all_eq_false]
 refine ⟨m,hm,?_⟩
 rw [Bool.not_eq_true,List.all_eq_false]
 exact ⟨s,hs,by simp [h]⟩
theorem usesOk_yes {l:List TMod} (h:∀m ∈ l,∀s ∈ m.uses,(placeL l s).isSome=true):usesOk l=true:=List.all_eq_true.2 fun m hm=>List.all_eq_true.2 fun s hs=>h m hm s hs
theorem es22:elemSz Try.prog 22=some 5:=by kernel_rfl
theorem pl53:placesP Try.prog 53=some [(0,1),(1,1)]:=by kernel_rfl
theorem zr53:zeroOf Try.prog 53=some (.agg #[.slice none 0 0,.map none]):=by kernel_rfl
theorem zr39:zeroOf Try.prog 39=some (.agg #[st [],.slice none 0 0,.slice none 0 0,.slice none 0 0,.slice none 0 0]):=by kernel_rfl
theorem sz39:sizeP Try.prog 39=some 5:=by kernel_rfl
theorem en27:Enters Try.prog 27:=enters_of Try.func27 (by kernel_rfl) rfl
theorem fo53_1:fieldOff Try.prog 53 1=some 1:=by kernel_rfl
theorem na51:nonAgg Try.prog 51=true:=by kernel_rfl
theorem um51:Try.prog.underlying 51=some (.map 9 3):=by kernel_rfl
theorem zr3:zeroOf Try.prog 3=some (.int .i64 0):=by kernel_rfl
theorem orderOf_any (H:View) (ke ks:Nat) (a:Option Addr) (c:Nat) (l:List TMod) (w:World) (hH:Le H w) (hm:Sl (rdMod ke ks) 5 H a c l) (hb:∀m ∈ l,wM m≤109951162777) :
   Calls Try.prog 15 #[.slice a l.length c] w fun e w'=>∃r:Nat×Nat,e = .returned (.tuple #[.pointer (if orderE l=0 then some ⟨r.1,0,none⟩ else none),.int .i64 (orderE l)])∧Ext w w'∧(orderE l=0→vc (nv w w') r.1 1=some (.map (some r.2))∧(nv w w') r.2=some (gobj st (tabZ (namesL l) 0) l.length)):=by
 have hcap:=hm.cap
 have hmax:=hm.max
 refine enter Try.func15 rfl 76 rfl rfl ?_
 refine CWd (W':=Ws w [] [] [H]) (fun _ e=>by subst e; exact Ws.init (by simp [hH])) ?_
 refine Cs (Cr ?_)
 refine V0 (Ya rfl) ?_
 refine V0 (Ya rfl) ?_
 refine Ln (Et (Cs (Cs (Cr ?_))))
 refine V0 (Ym rfl) ?_
 refine V0 (Yn es22 rfl) ?_
 refine V0 (yl_gt rfl rfl) ?_
 refine Ln (Et ?_)
 refine Cc rfl (fun hc0=>?_) (fun hc0=>?_)
 ·
  have h4:4<l.length:=by simp at hc0; omega
  refine Cs (Cr ?_)
  refine V0 (Ya rfl) ?_
  refine V0 (Ya rfl) ?_
  refine Ln (Et (Crt (Er ?_)))
  refine WE.ret2 rfl rfl rfl fun w' hw=>?_
  rw [orderE_many h4]
  exact ⟨(0,0),rfl,hw.fr,fun h=>by cases h⟩
 ·
  have h4:¬4<l.length:=by simp at hc0; omega
  refine Ck (Et (Cs (Cr ?_)))
  refine V0 (Ym rfl) ?_
  refine WL.gmk st (.inl rfl) rfl fun b18=>?_
  refine V0 (Yb zr53 pl53 rfl rfl) ?_
  refine WL.box (.inl rfl) rfl rfl fun b20=>?_
  refine V0 (Ya rfl) ?_
  refine Ln (Et (Cs (Cs (Cr ?_))))
  refine V0 (Ym rfl) ?_
  refine V0 (Yn es22 rfl) ?_
  refine V0 (Ym rfl) ?_
  refine Ln (Et (Cb ?_))
  refine CK (ι:=GO) (fun g=>[(23,.int .i64 (g.i:Int))]) [(0,_),(4,_),(21,_),(22,_)] (fun g=>Ws w [] [blk b20 (.cells #[.slice a l.length c,.map (some b18)] 53 (0,0)),blk b18 (gobj st g.M g.c)] [H]) (fun g=>g.i≤l.length∧(∀m ∈ l.take g.i,checkM m=0)∧TabState (namesL l) g.i g.M g.c) (fun g=>l.length-g.i) ⟨0,[],0⟩ ⟨Nat.zero_le _,by simp,.inl ⟨by simp,rfl,rfl⟩⟩ (sc rfl (sc rfl (sc rfl (sc rfl (sc rfl sn))))) (fun _ h=>h) ?_
  intro g ⟨hi,hall,hT⟩
  refine Cs (Cr ?_)
  refine V0 (yl_lt rfl rfl) ?_
  refine Ln (Et (Cs ?_))
  refine Cc rfl (fun hc1=>?_) (fun hc1=>?_)
  ·
   have hlt:g.i<l.length:=by simpa using hc1
   obtain ⟨m,hmi⟩:∃q,l[g.i]? = some q:=⟨_,List.getElem?_eq_getElem hlt⟩
   obtain ⟨pbm,pom,ham,hrm⟩:=hm.elt g.i m hmi
   obtain ⟨rm,hrowm,hrdm⟩:=hrm
   have hmemm:=List.mem_of_getElem? hmi
   have hbwm:=hb m hmemm
   have hnm:=names_get hmi
   refine Ck (Et (Cs (Cb (Cs (Cr ?_)))))
   refine V0 (Ym rfl) ?_
   refine V0 (Yo es22 rfl rfl ham (by omega)) ?_
   refine V0 (yl_lda 0 ag39 rfl rfl rfl (hrowm)) ?_
   refine WL.alloc (.inl rfl) rfl zr39 fun b6=>?_
   refine V0 (Ya rfl) ?_
   refine Lst 0 (.inl rfl) rfl rfl rfl sz39 rfl rfl rfl ?_
   refine Ln (Et (Cs (Cs (Cr ?_))))
   refine V0 (Yda 0 rfl rfl ag39 rfl) ?_
   refine Lp (.inl rfl) rfl en27 rfl (fun w hw=>treeCheck_any H ke ks rm m w (hw.vs _ (by simp)) hrdm (by omega)) ?_
   refine V0 (Ya rfl) ?_
   refine Ln (Et (Cs (Cr ?_)))
   refine V0 (Ym rfl) ?_
   refine V0 (yl_ne rfl rfl) ?_
   refine Ln (Et ?_)
   refine Cc rfl (fun hc2=>?_) (fun hc2=>?_)
   ·
    have hck:¬checkM m=0:=by simpa using hc2
    refine Cs (Cr ?_)
    refine V0 (Ym rfl) ?_
    refine V0 (Ya rfl) ?_
    refine V0 (Ya rfl) ?_
    refine Ln (Et (Crt (Er (Ebr (Er ?_)))))
    refine Er (Ebr (Er ?_))
    refine WE.ret2 rfl rfl rfl fun w' hw=>?_
    rw [orderE_mod h4 hmi hall hck]
    exact ⟨(0,0),by rw [if_neg hck],hw.fr,fun h=>absurd h hck⟩
   ·
    have hck:checkM m=0:=by simpa using hc2
    refine Ck (Et ?_)
    refine WC.draws1 2 [(0,true),(1,true),(2,true),(3,true),(4,true),(5,true),(6,true),(7,false)] mixed (by kernel_rfl) (fun _ _ _ d _ h=>by cases d<;>exact h) ?_
    refine Dq rfl (.inl rfl) rfl (fun _ h=>by have h:=Ws.out 2 h; exact h) (Ym rfl) ?_
    refine Dq rfl (.inl rfl) rfl (fun _ h=>by have h:=Ws.out 2 h; exact h) (yl_nil rfl) ?_
    refine Dq rfl (.inl rfl) rfl (fun _ h=>by have h:=Ws.out 2 h; exact h) (Yf fo53_1 rfl) ?_
    refine Dq rfl (.inl rfl) rfl (fun _ h=>by have h:=Ws.out 2 h; exact h) (Yd 1 rfl rfl rfl na51) ?_
    refine Dq rfl (.inl rfl) rfl (fun _ h=>by have h:=Ws.out 2 h; exact h) (Yf fo39_0 rfl) ?_
    refine Dq rfl (.inl rfl) rfl (fun _ h=>by have h:=Ws.out 2 h; exact h) (Yd 0 rfl rfl rfl na9) ?_
    refine Dq rfl (.inl rfl) rfl (fun _ h=>by have h:=Ws.out 2 h; exact h) (Ym rfl) ?_
    refine De rfl (fun _ h=>by have h:=Ws.out 2 h; exact h) ?_
    refine WL.gset 2 keyStr (.inl rfl) um51 us9 rfl rfl rfl rfl ?_
    refine Ln (Ed ?_)
    refine WD.nil (fun _ h=>by have h:=Ws.out 2 h; exact h) ?_
    refine Eb (Et (Cr ?_))
    refine V0 (Yi rfl rfl rfl (by omega)) ?_
    refine V0 (Ym rfl) ?_
    refine Ln ?_
    exact Ea (⟨g.i+1,gput m.nm (.int .i64 (g.i:Int)) g.M g.c,gclock m.nm g.M g.c⟩:GO) (by show _-(g.i+1)<_; omega) ⟨(by show g.i+1≤_; omega),mem_take_snoc hmi hall hck,tabState_step hT hnm⟩ (sc rfl (sc rfl (sc rfl (sc rfl (sc rfl sn))))) (fun _ h=>Ws.drop (L:=[_]) h)
  ·
   have hge:g.i=l.length:=by simp at hc1; omega
   rw [hge,List.take_length] at hall
   refine Ce (Ex (Ex (Ebh (Et (Cs ?_)))))
   refine Cs (Cr ?_)
   refine V0 (Ym rfl) ?_
   refine V0 (yl_nil rfl) ?_
   refine V0 (Yf fo53_1 rfl) ?_
   refine V0 (Yd 0 rfl rfl rfl na51) ?_
   refine V0 (yl_mlen 1 um51 rfl rfl) ?_
   refine V0 (Ym rfl) ?_
   refine V0 (Yn es22 rfl) ?_
   refine V0 (yl_lt rfl rfl) ?_
   refine Ln (Et ?_)
   refine Cc rfl (fun hc3=>?_) (fun hc3=>?_)
   ·
    have hlen:g.M.length<l.length:=by simp at hc3; omega
    have htw:twiceB (namesL l)=true:=by
      rcases hT with ⟨h1,h2,h3⟩ | ⟨h1,h2⟩
      · rw [h2,tabZ_len] at hlen; simp [names_len] at hlen; omega
      · rw [hge,←names_len l,List.take_length] at h1
        rw [nodup_twice] at h1; simpa using h1
    refine Cs (Cr ?_)
    refine V0 (Ya rfl) ?_
    refine V0 (Ya rfl) ?_
    refine Ln (Et (Crt (Er ?_)))
    refine WE.ret2 rfl rfl rfl fun w' hw=>?_
    rw [orderE_rest h4 hall,htw]
    exact ⟨(0,0),rfl,hw.fr,fun h=>by cases h⟩
   ·
    have hlen:¬g.M.length<l.length:=by simp at hc3; omega
    obtain ⟨hnd,hM,hcc⟩:(namesL l).Nodup∧g.M=tabZ (namesL l) 0∧g.c=l.length:=by
      rcases hT with ⟨h1,h2,h3⟩ | ⟨h1,h2⟩
      · rw [hge,←names_len l,List.take_length] at h1
        rw [hge,←names_len l,List.take_length] at h2
        exact ⟨h1,h2,by omega⟩
      · omega
    have htw:=nodup_twice.1 hnd
    rw [hM,hcc]
    have hrest:=orderE_rest h4 hall
    rw [htw] at hrest
    refine Ck (Et (Cs (Cs (Cr ?_))))
    refine V0 (Ym rfl) ?_
    refine V0 (Yn es22 rfl) ?_
    refine V0 (Ym rfl) ?_
    refine Ln (Et (Cb ?_))
    refine CW (ι:=Nat) (fun i=>[(51,.int .i64 (i:Int))]) [(4,_),(49,_),(50,_)] (fun i=>i≤l.length∧∀m ∈ l.take i,∀s ∈ m.uses,(placeL l s).isSome=true) (fun i=>l.length-i) 0 ⟨Nat.zero_le _,by simp⟩ (sc rfl (sc rfl (sc rfl (sc rfl sn)))) ?_
    intro i ⟨hi2,hall2⟩
    refine Cs (Cr ?_)
    refine V0 (yl_lt rfl rfl) ?_
    refine Ln (Et (Cs ?_))
    refine Cc rfl (fun hc4=>?_) (fun hc4=>?_)
    ·
     have hlt:i<l.length:=by simpa using hc4
     obtain ⟨n,hni⟩:∃q,l[i]? = some q:=⟨_,List.getElem?_eq_getElem hlt⟩
     obtain ⟨pbn,pon,han,hrn⟩:=hm.elt i n hni
     obtain ⟨rn,hrown,hrdn⟩:=hrn
     have hmemn:=List.mem_of_getElem? hni
     have hbwn:=hb n hmemn
     have hku:=hrdn.uses.cap
     have hkm:=hrdn.uses.max
     refine Ck (Et (Cs (Cb (Cs (Cr ?_)))))
     refine V0 (Yo es22 rfl rfl han (by omega)) ?_
     refine V0 (yl_lda 0 ag39 rfl rfl rfl (hrown)) ?_
     refine WL.alloc (.inl rfl) rfl zr39 fun b9=>?_
     refine Lst 0 (.inl rfl) rfl rfl rfl sz39 rfl rfl rfl ?_
     refine Ln (Et (Cs (Cr ?_)))
     refine V0 (Yf fo39_1 rfl) ?_
     refine V0 (Yd 0 rfl rfl rfl na27) ?_
     refine V0 (Yn es27 rfl) ?_
     refine V0 (Ym rfl) ?_
     refine Ln (Et (Cb ?_))
     refine CW (ι:=Nat) (fun k=>[(58,.int .i64 (k:Int))]) [(4,_),(49,_),(50,_),(51,_),(56,_),(57,_)] (fun k=>k≤n.uses.length∧∀s ∈ n.uses.take k,(placeL l s).isSome=true) (fun k=>n.uses.length-k) 0 ⟨Nat.zero_le _,by simp⟩ (sc rfl (sc rfl (sc rfl (sc rfl (sc rfl (sc rfl (sc rfl sn))))))) ?_
     intro k ⟨hk,halls⟩
     refine Cs (Cr ?_)
     refine V0 (yl_lt rfl rfl) ?_
     refine Ln (Et (Cs ?_))
     refine Cc rfl (fun hc5=>?_) (fun hc5=>?_)
     ·
      have hlt:k<n.uses.length:=by simpa using hc5
      obtain ⟨s,hsi⟩:∃q,n.uses[k]? = some q:=⟨_,List.getElem?_eq_getElem hlt⟩
      obtain ⟨pbs,pos,has,hrs⟩:=hrdn.uses.elt k s hsi
      have hrs:RdC H pbs (pos+k*1) (strC s):=hrs
      refine Ck (Et (Cs (Cb (Cs (Cr ?_)))))
      refine V0 (Yo es27 rfl rfl has (by omega)) ?_
      refine V0 (yl_ld 0 na9 rfl rfl (hrs 0 _ rfl)) ?_
      refine V0 (Ya rfl) ?_
      refine Ln (Et (Cs (Cr ?_)))
      refine V0 (Ym rfl) ?_
      refine V0 (yl_nil rfl) ?_
      refine V0 (Yf fo53_1 rfl) ?_
      refine V0 (Yd 1 rfl rfl rfl na51) ?_
      refine V0 (Ym rfl) ?_
      refine V0 (yl_glook2 2 keyStr um51 us9 zr3 rfl rfl rfl) ?_
      rw [(tabZ_get _ _).1,(tabZ_get _ _).2]
      refine V0 (Ym rfl) ?_
      refine V0 (Yx rfl rfl) ?_
      refine V0 (Yx rfl rfl) ?_
      refine V0 (Ya rfl) ?_
      refine V0 (Ya rfl) ?_
      refine Ln (Et (Cs (Cr ?_)))
      refine V0 (Ym rfl) ?_
      refine V0 (yl_not rfl) ?_
      refine Ln (Et ?_)
      refine Cc rfl (fun hc6=>?_) (fun hc6=>?_)
      ·
       have hno:(placeL l s).isSome=false:=by simpa [placeL] using hc6
       refine Cs (Cr ?_)
       refine V0 (Ya rfl) ?_
       refine V0 (Ya rfl) ?_
       refine Ln (Et (Crt (Ebr (Er (Er ?_)))))
       refine Ebr (Ebr (Er (Er (Ebr (Er ?_)))))
       refine WE.ret2 rfl rfl rfl fun w' hw=>?_
       rw [hrest,usesOk_no hmemn (List.mem_of_getElem? hsi) hno]
       exact ⟨(0,0),rfl,hw.fr,fun h=>by cases h⟩
      ·
       have hyes:(placeL l s).isSome=true:=by simpa [placeL] using hc6
       refine Ck (Eb (Et (Cr ?_)))
       refine V0 (Yi rfl rfl rfl (by omega)) ?_
       refine V0 (Ym rfl) ?_
       refine Ln ?_
       exact Ea (k+1) (by omega) ⟨by omega,mem_take_snoc hsi halls hyes⟩ (sc rfl (sc rfl (sc rfl (sc rfl (sc rfl (sc rfl (sc rfl sn))))))) (fun _ h=>h)
     ·
      have hge3:k=n.uses.length:=by simp at hc5; omega
      rw [hge3,List.take_length] at halls
      refine Ce (Ex (Ex (Ebh (Eb (Et ?_)))))
      refine Cr ?_
      refine V0 (Yi rfl rfl rfl (by omega)) ?_
      refine V0 (Ym rfl) ?_
      refine Ln ?_
      exact Ea (i+1) (by omega) ⟨by omega,mem_take_snoc hni hall2 halls⟩ (sc rfl (sc rfl (sc rfl (sc rfl sn)))) (fun _ h=>Ws.drop (L:=[_]) h)
    ·
     have hge2:¬i<l.length:=by simpa using hc4
     have hall3:∀m ∈ l,∀s ∈ m.uses,(placeL l s).isSome=true:=fun m hm=>hall2 m (by rw [List.take_of_length_le (by omega)]; exact hm)
     have he0:orderE l=0:=by rw [hrest,usesOk_yes hall3]; rfl
     refine Ce (Ex (Ex (Ebh (Et (Cs ?_)))))
     refine Cr ?_
     refine V0 (Ym rfl) ?_
     refine V0 (Ya rfl) ?_
     refine V0 (Ya rfl) ?_
     refine Ln (Et (Crt ?_))
     refine WE.ret2 rfl rfl rfl fun w' hw=>?_
     rw [he0]
     exact ⟨(b20,b18),rfl,hw.fr,fun _=>⟨hw.nvc 0 rfl rfl,hw.nvb 1 rfl⟩⟩
end Go.Proofs.Ytinnlppbkhhoiaa
end
section
namespace Go.Proofs.Ytinnlppbkhhoiaa
open Go.Bw
set_option linter.unusedVariables false
set_option linter.unusedSimpArgs false
def ixC (i:Nat):List Value:=[.int .i64 (i:Int)]
theorem ixC_len (i:Nat):(ixC i).length=1:=rfl
def rdIx (H:View) (b o:Nat) (i:Nat):Prop:=RdC H b o (ixC i)
def lenK (x:Nat):Int:=if x=0 then 0 else if x=1 then 1 else if x≤3 then 2 else 3
def eAt (d:List Nat) (j:Nat):Nat:=d.getD j 0
theorem eAt_get {d:List Nat} {j:Nat} (h:j<d.length):d[j]? = some (eAt d j):=by simp [eAt,List.getD,List.getElem?_eq_getElem h]
def ixD (l:List TMod) (d:List Nat) (ss:List Tx):Int:=if ss.all (doneS l d)=true then -1 else ((ss.findIdx fun s=>!doneS l d s:Nat):Int)
theorem ixD_yes {l:List TMod} {d:List Nat} {ss:List Tx} (h:∀s ∈ ss,doneS l d s=true):ixD l d ss = -1:=by rw [ixD,if_pos (List.all_eq_true.2 h)]
theorem ixD_no {l:List TMod} {d:List Nat} {ss:List Tx} {i:Nat} {s:Tx} (hi:ss[i]? = some s) (hall:∀s ∈ ss.take i,doneS l d s=true) (h:doneS l d s=false):ixD l d ss=(i:Int):=by
 have hlt:=(List.getElem?_eq_some_iff.1 hi).1
 have hs:=(List.getElem?_eq_some_iff.1 hi).2
 rw [ixD,if_neg (fun h2=>by rw [List.all_eq_true] at h2; rw [h2 s (List.mem_of_getElem? hi)] at h; cases h)]
 congr 1
 rw [List.findIdx_eq hlt]
 refine ⟨by rw [hs,h]; rfl,fun j hj=>?_⟩
 rw [hall _ (by rw [List.mem_take_iff_getElem]; exact ⟨j,by omega,rfl⟩)]
 rfl
theorem ixD_ge (l:List TMod) (d:List Nat) (ss:List Tx):decide (ixD l d ss≥0) = !ss.all (doneS l d):=by
 unfold ixD
 by_cases h:ss.all (doneS l d)=true
 · rw [if_pos h,h]; rfl
 · rw [if_neg h,Bool.eq_false_iff.2 h]; simp
structure GI where
 i:Nat
 d:List Nat
theorem sorted_lt {l:List TMod} (hn:(namesL l).Nodup) {d:List Nat} (hd:∀x ∈ d,x<l.length) (hnd:d.Nodup) {i j a b:Nat} (ha:d[i]? = some a) (hb:d[j]? = some b) (hij:i≠j) (h:¬cmpT (nmAt l a) (nmAt l b)<0):ltN l b a:=by
 have hne:nmAt l a≠nmAt l b:=fun e=>by
   have:=nm_inj hn (hd a (List.mem_of_getElem? ha)) (hd b (List.mem_of_getElem? hb)) e
   subst this
   exact hij ((List.getElem?_inj (List.getElem?_eq_some_iff.1 ha).1 hnd).1 (ha.trans hb.symm))
 rcases ltT_tri _ _ hne with h1 | h1
 · exact absurd (cmpT_neg.2 h1) h
 · exact h1
theorem sortedUp_le {R:Nat→Nat→Prop} {d:List Nat} {i j:Nat} (h:SortedUp R d i) (hj:d.length≤i):SortedUp R d j:=fun x y a b h1 h2 ha hb=>h x y a b h1 (by have:=(List.getElem?_eq_some_iff.1 hb).1; omega) ha hb
theorem sortedUp_one {R:Nat→Nat→Prop} {d:List Nat}:SortedUp R d 1:=fun x y a b h1 h2=>by omega
theorem en30:Enters Try.prog 30:=enters_of Try.func30 (by kernel_rfl) rfl
theorem ui96:Try.prog.underlying 96=some (.int .u64):=by kernel_rfl
theorem ui5:Try.prog.underlying 5=some (.int .u8):=by kernel_rfl
theorem en52:Enters Try.prog 52:=enters_of Try.func52 (by kernel_rfl) rfl
theorem na22:nonAgg Try.prog 22=true:=by kernel_rfl
theorem en18:Enters Try.prog 18:=enters_of Try.func18 (by kernel_rfl) rfl
theorem es23:elemSz Try.prog 23=some 1:=by kernel_rfl
theorem en17:Enters Try.prog 17:=enters_of Try.func17 (by kernel_rfl) rfl
theorem isNaNS_any (s:Tx) (w:World) :
   Calls Try.prog 30 #[st s] w fun e w'=>e = .returned (.bool false)∧Ext w w':=by
 refine enter Try.func30 rfl 6 rfl rfl ?_
 refine CWd (W':=Ws w [] [] []) (fun _ e=>by subst e; exact Ws.init (by simp)) ?_
 refine Cs (Cr ?_)
 refine V0 (Ya rfl) ?_
 refine Ln (Et (Cs (Cr ?_)))
 refine V0 (Ym rfl) ?_
 refine V0 (Ym rfl) ?_
 refine V0 (yl_nesY rfl rfl rfl) ?_
 refine V0 (Ya rfl) ?_
 refine Ln (Et (Crt ?_))
 refine WE.ret1 rfl rfl fun w' hw=>?_
 exact ⟨rfl,hw.fr⟩
theorem compareS_any (s t:Tx) (w:World) :
   Calls Try.prog 18 #[st s,st t] w fun e w'=>e = .returned (.int .i64 (cmpT s t))∧Ext w w':=by
 refine enter Try.func18 rfl 20 rfl rfl ?_
 refine CWd (W':=Ws w [] [] []) (fun _ e=>by subst e; exact Ws.init (by simp)) ?_
 refine Cs (Cr ?_)
 refine V0 (Ya rfl) ?_
 refine Ln (Et (Cs (Cr ?_)))
 refine V0 (Ym rfl) ?_
 refine Lp (.inl rfl) rfl en30 rfl (fun w hw=>isNaNS_any _ w) ?_
 refine V0 (Ya rfl) ?_
 refine Ln (Et (Cs (Cr ?_)))
 refine V0 (Ym rfl) ?_
 refine Lp (.inl rfl) rfl en30 rfl (fun w hw=>isNaNS_any _ w) ?_
 refine V0 (Ya rfl) ?_
 refine Ln (Et (Cs (Cs (Cr ?_))))
 refine V0 (Ym rfl) ?_
 refine Ln (Et ?_)
 refine WC.condf rfl ?_
 refine Ck (Et (Cs (Cs (Cr ?_))))
 refine V0 (Ym rfl) ?_
 refine Ln (Et ?_)
 refine WC.condf rfl ?_
 refine Ck (Et (Cs (Cs (Cr ?_))))
 refine V0 (Ym rfl) ?_
 refine V0 (Ym rfl) ?_
 refine V0 (yl_lts rfl rfl) ?_
 refine Ln (Et ?_)
 refine Cc rfl (fun hc3=>?_) (fun hc3=>?_)
 ·
  refine Cs (Cr ?_)
  refine V0 (Ya rfl) ?_
  refine Ln (Et (Crt (Er ?_)))
  refine WE.ret1 rfl rfl fun w' hw=>?_
  have h:ltT s t=true:=hc3
  exact ⟨by rw [cmpT,if_pos h],hw.fr⟩
 ·
  refine Ck (Et (Cs (Cs (Cr ?_))))
  refine V0 (Ym rfl) ?_
  refine V0 (Ym rfl) ?_
  refine V0 (yl_gts rfl rfl) ?_
  refine Ln (Et ?_)
  refine Cc rfl (fun hc4=>?_) (fun hc4=>?_)
  ·
   refine Cs (Cr ?_)
   refine V0 (Ya rfl) ?_
   refine Ln (Et (Crt (Er ?_)))
   refine WE.ret1 rfl rfl fun w' hw=>?_
   have h:¬ltT s t=true:=by rw [Bool.not_eq_true]; exact hc3
   have h2:(!(ltT s t||s==t))=true:=hc4
   exact ⟨by rw [cmpT,if_neg h,if_pos h2],hw.fr⟩
  ·
   refine Ck (Et (Cs (Cr ?_)))
   refine V0 (Ya rfl) ?_
   refine Ln (Et (Crt ?_))
   refine WE.ret1 rfl rfl fun w' hw=>?_
   have h:¬ltT s t=true:=by rw [Bool.not_eq_true]; exact hc3
   have h2:¬(!(ltT s t||s==t))=true:=by rw [Bool.not_eq_true]; exact hc4
   exact ⟨by rw [cmpT,if_neg h,if_neg h2],hw.fr⟩
theorem len64_any (x:Nat) (w:World) (hx:x≤4) :
   Calls Try.prog 52 #[.int .u64 (x:Int)] w fun e w'=>e = .returned (.int .i64 (lenK x))∧Ext w w':=by
 have hwr:IntKind.u8.wrap (x:Int)=(x:Int):=by rcases (show x=0∨x=1∨x=2∨x=3∨x=4 by omega) with rfl | rfl | rfl | rfl | rfl<;>rfl
 refine enter Try.func52 rfl 25 rfl rfl ?_
 refine CWd (W':=Ws w [] [] []) (fun _ e=>by subst e; exact Ws.init (by simp)) ?_
 refine Cs (Cr ?_)
 refine V0 (Ya rfl) ?_
 refine Ln (Et (Cs (Cs (Cr ?_))))
 refine V0 (Ym rfl) ?_
 refine V0 (yl_ge rfl rfl) ?_
 refine Ln (Et ?_)
 refine Cc rfl (fun hc0=>?_) (fun hc0=>?_)
 ·
  exfalso
  simp at hc0
  omega
 ·
  refine Ck (Et (Cs (Cs (Cr ?_))))
  refine V0 (Ym rfl) ?_
  refine V0 (yl_ge rfl rfl) ?_
  refine Ln (Et ?_)
  refine Cc rfl (fun hc1=>?_) (fun hc1=>?_)
  ·
   exfalso
   simp at hc1
   omega
  ·
   refine Ck (Et (Cs (Cs (Cr ?_))))
   refine V0 (Ym rfl) ?_
   refine V0 (yl_ge rfl rfl) ?_
   refine Ln (Et ?_)
   refine Cc rfl (fun hc2=>?_) (fun hc2=>?_)
   ·
    exfalso
    simp at hc2
    omega
   ·
    refine Ck (Et (Cs (Cr ?_)))
    refine V0 (Ym rfl) ?_
    refine V0 (Ym rfl) ?_
    refine V0 (yl_cvi ui96 ui5 rfl) ?_
    rw [hwr]
    refine V0 (yl_idxk us9 rfl rfl (show _=some (UInt8.ofNat (lenK x).toNat) by rcases (show x=0∨x=1∨x=2∨x=3∨x=4 by omega) with rfl | rfl | rfl | rfl | rfl<;>rfl)) ?_
    refine V0 (yl_cvi ui5 ui3 rfl) ?_
    refine V0 (yl_addw rfl rfl) ?_
    refine V0 (Ya rfl) ?_
    refine Ln (Et (Crt ?_))
    refine WE.ret1 rfl rfl fun w' hw=>?_
    exact ⟨by rcases (show x=0∨x=1∨x=2∨x=3∨x=4 by omega) with rfl | rfl | rfl | rfl | rfl<;>rfl,hw.fr⟩
theorem bitsLen_any (x:Nat) (w:World) (hx:x≤4) :
   Calls Try.prog 29 #[.int .u64 (x:Int)] w fun e w'=>e = .returned (.int .i64 (lenK x))∧Ext w w':=by
 refine enter Try.func29 rfl 8 rfl rfl ?_
 refine CWd (W':=Ws w [] [] []) (fun _ e=>by subst e; exact Ws.init (by simp)) ?_
 refine Cs (Cr ?_)
 refine V0 (Ya rfl) ?_
 refine Ln (Et (Cs ?_))
 refine WC.condf rfl ?_
 refine Ck (Et (Cs (Cr ?_)))
 refine V0 (Ym rfl) ?_
 refine Lp (.inl rfl) rfl en52 rfl (fun w hw=>len64_any x w hx) ?_
 refine V0 (Ya rfl) ?_
 refine Ln (Et (Crt ?_))
 refine WE.ret1 rfl rfl fun w' hw=>?_
 exact ⟨rfl,hw.fr⟩
theorem sort1_any (H Hm:View) (ke ks b1:Nat) (am:Option Addr) (cm:Nat) (l:List TMod) (h1:vc H b1 0=some (.slice am l.length cm)) (hm:Sl (rdMod ke ks) 5 Hm am cm l) (i j:Nat) (w:World) (hH:Le H w) (hHm:Le Hm w) (hi:i<l.length) (hj:j<l.length) :
   Calls Try.prog 17 #[.int .i64 (i:Int),.int .i64 (j:Int),.pointer (some ⟨b1,0,none⟩)] w fun e w'=>e = .returned (.int .i64 (cmpT (nmAt l i) (nmAt l j)))∧Ext w w':=by
 obtain ⟨mi,hmii⟩:∃m,l[i]? = some m:=⟨_,List.getElem?_eq_getElem hi⟩
 obtain ⟨pbx,pox,hax,rx,hrowx,hrdx⟩:=hm.elt i mi hmii
 have hnx:=nmAt_get hmii
 obtain ⟨mj,hmji⟩:∃m,l[j]? = some m:=⟨_,List.getElem?_eq_getElem hj⟩
 obtain ⟨pby,poy,hay,ry,hrowy,hrdy⟩:=hm.elt j mj hmji
 have hny:=nmAt_get hmji
 refine enter Try.func17 rfl 17 rfl rfl ?_
 refine CWd (W':=Ws w [] [] [H,Hm]) (fun _ e=>by subst e; exact Ws.init (by simp [hH,hHm])) ?_
 refine Cs (Cr ?_)
 refine V0 (Ya rfl) ?_
 refine Ln (Et (Cs ?_))
 refine WC.draws0 [(0,true),(1,true),(2,true),(3,true),(4,true),(5,true),(6,true),(7,true),(8,true),(9,true),(10,false),(11,true)] mixed (by kernel_rfl) (fun _ _ _ d _ h=>by cases d<;>exact h) ?_
 refine Dq rfl (.inl rfl) rfl (fun _ h=>h) (yl_ld 0 na22 rfl rfl (h1)) ?_
 refine Dq rfl (.inl rfl) rfl (fun _ h=>h) (Ym rfl) ?_
 refine Dq rfl (.inl rfl) rfl (fun _ h=>h) (Yo es22 rfl rfl hax hi) ?_
 refine Dq rfl (.inl rfl) rfl (fun _ h=>h) (Yf fo39_0 rfl) ?_
 refine Dq rfl (.inl rfl) rfl (fun _ h=>h) (yl_ld 1 na9 rfl rfl (hrowx 0 _ rfl)) ?_
 refine Dq rfl (.inl rfl) rfl (fun _ h=>h) (yl_ld 0 na22 rfl rfl (h1)) ?_
 refine Dq rfl (.inl rfl) rfl (fun _ h=>h) (Ym rfl) ?_
 refine Dq rfl (.inl rfl) rfl (fun _ h=>h) (Yo es22 rfl rfl hay hj) ?_
 refine Dq rfl (.inl rfl) rfl (fun _ h=>h) (Yf fo39_0 rfl) ?_
 refine Dq rfl (.inl rfl) rfl (fun _ h=>h) (yl_ld 1 na9 rfl rfl (hrowy 0 _ rfl)) ?_
 refine De rfl (fun _ h=>h) ?_
 refine Lp (.inl rfl) rfl en18 rfl (fun w hw=>compareS_any _ _ w) ?_
 refine Ln (Ed ?_)
 refine Dq rfl (.inl rfl) rfl (fun _ h=>h) (Ya rfl) ?_
 refine WD.nil (fun _ h=>h) ?_
 refine Et (Crt ?_)
 refine WE.ret1 rfl rfl fun w' hw=>?_
 exact ⟨by rw [hnx,hny],hw.fr⟩
theorem insSort_any (H Hm:View) (ke ks b1:Nat) (am:Option Addr) (cm:Nat) (l:List TMod) (h1:vc H b1 0=some (.slice am l.length cm)) (hm:Sl (rdMod ke ks) 5 Hm am cm l) (a:Option Addr) (c:Nat) (d0:List Nat) (hn:(namesL l).Nodup) (hd:∀x ∈ d0,x<l.length) (hnd:d0.Nodup) (h4:d0.length≤4) (w:World) (hw:Ws w (List.flatMap Asr.ids [osT 3 1 ixC a c d0]) [osT 3 1 ixC a c d0] [H,Hm] w) :
   Calls Try.prog 43 #[.slice a d0.length c,.int .i64 0,.int .i64 (d0.length:Int),.func (.func 17) #[] #[.pointer (some ⟨b1,0,none⟩)]] w fun e w'=>∃d:List Nat,e = .returned (.tuple #[])∧(d.Perm d0∧SortedUp (ltN l) d d.length)∧Ws w (List.flatMap Asr.ids [osT 3 1 ixC a c d0]) [osT 3 1 ixC a c d] [H,Hm] w':=by
 refine enter Try.func43 rfl 53 rfl rfl ?_
 refine CWd (W':=Ws w (List.flatMap Asr.ids [osT 3 1 ixC a c d0]) [osT 3 1 ixC a c d0] [H,Hm]) (fun _ e=>by subst e; exact hw) ?_
 refine Cs (Cr ?_)
 refine V0 (Ym rfl) ?_
 refine V0 (yl_addn (a:=0) (b:=1) rfl rfl rfl rfl (by omega)) ?_
 refine V0 (Ya rfl) ?_
 refine Ln (Et (Cb ?_))
 refine CK (ι:=GI) (fun g=>[(8,.int .i64 (g.i:Int))]) [(0,_),(1,_),(2,_),(3,_)] (fun g=>Ws w (List.flatMap Asr.ids [osT 3 1 ixC a c d0]) [osT 3 1 ixC a c g.d] [H,Hm]) (fun g=>g.d.Perm d0∧SortedUp (ltN l) g.d g.i) (fun g=>d0.length-g.i) ⟨1,d0⟩ ⟨List.Perm.refl _,sortedUp_one⟩ (sc rfl (sc rfl (sc rfl (sc rfl (sc rfl sn))))) (fun _ h=>h) ?_
 intro g ⟨hp,hs⟩
 refine Cs (Cs (Cr ?_))
 refine V0 (Ym rfl) ?_
 refine V0 (Ym rfl) ?_
 refine V0 (yl_lt rfl rfl) ?_
 refine Ln (Et ?_)
 refine Cc rfl (fun hc0=>?_) (fun hc0=>?_)
 ·
  have hlt:g.i<d0.length:=by simpa using hc0
  have hpl:=hp.length_eq
  refine Ck (Et (Cs (Cb (Cs (Cr ?_)))))
  refine V0 (Ym rfl) ?_
  refine V0 (Ya rfl) ?_
  refine Ln (Et (Cb ?_))
  refine CK (ι:=GI) (fun q=>[(9,.int .i64 (q.i:Int))]) [(0,_),(1,_),(2,_),(3,_),(8,_)] (fun q=>Ws w (List.flatMap Asr.ids [osT 3 1 ixC a c d0]) [osT 3 1 ixC a c q.d] [H,Hm]) (fun q=>InsInv (ltN l) d0 q.d g.i q.i) (fun q=>q.i) ⟨g.i,g.d⟩ (ins_start hp (by rw [hpl]; exact hlt) hs) (sc rfl (sc rfl (sc rfl (sc rfl (sc rfl (sc rfl sn)))))) (fun _ h=>h) ?_
  intro q hq
  refine Cs (Cs ?_)
  have hql:q.d.length=d0.length:=hq.perm.length_eq
  have hqi:=hq.ji
  have hqx:∀x ∈ q.d,x<l.length:=fun x hx=>hd x (hq.perm.subset hx)
  have hqn:q.d.Nodup:=hq.perm.nodup_iff.2 hnd
  have hj9:=eAt_get (d:=q.d) (j:=q.i) (by omega)
  have hj8:=eAt_get (d:=q.d) (j:=q.i-1) (by omega)
  refine WC.shapeT 0 rfl (by omega) fun xb hxb hxc hxm=>?_
  refine WC.draws0 [(0,true),(1,true),(2,true),(3,true),(4,true),(5,true),(6,true),(7,true),(8,true),(9,true),(10,true),(11,true),(12,true),(13,true),(14,false),(15,true),(16,true)] mixed (by kernel_rfl) (fun _ _ _ d _ h=>by cases d<;>exact h) ?_
  refine Dq rfl (.inl rfl) rfl (fun _ h=>h) (Ym rfl) ?_
  refine Dq rfl (.inl rfl) rfl (fun _ h=>h) (Ym rfl) ?_
  refine Dq rfl (.inl rfl) rfl (fun _ h=>h) (yl_gt rfl rfl) ?_
  refine Dq rfl (.inl rfl) rfl (fun _ h=>h) (Ym rfl) ?_
  apply WD.and 12 (x:=decide (cmpT (nmAt l (eAt q.d q.i)) (nmAt l (eAt q.d (q.i-1)))<0)) rfl rfl rfl rfl rfl (.inl rfl) rfl (fun _ h=>h) rfl rfl rfl rfl
  ·
   intro hg0
   have hg:0<q.i:=by simpa using hg0
   refine Dq rfl (.g rfl rfl rfl) rfl (fun _ h=>h) (Ym rfl) ?_
   refine Dq rfl (.g rfl rfl rfl) rfl (fun _ h=>h) (Ym rfl) ?_
   refine Dq rfl (.g rfl rfl rfl) rfl (fun _ h=>h) (Ym rfl) ?_
   refine Dq rfl (.g rfl rfl rfl) rfl (fun _ h=>h) (Yo es23 rfl rfl hxb (by omega)) ?_
   refine Dq rfl (.g rfl rfl rfl) rfl (fun _ h=>h) (yl_ldT (y:=(eAt q.d q.i)) 0 q.i 0 rfl rfl hxb rfl ixC_len hj9 rfl na3) ?_
   refine Dq rfl (.g rfl rfl rfl) rfl (fun _ h=>h) (Ym rfl) ?_
   refine Dq rfl (.g rfl rfl rfl) rfl (fun _ h=>h) (Ym rfl) ?_
   refine Dq rfl (.g rfl rfl rfl) rfl (fun _ h=>h) (yl_subv ((q.i-1:Nat):Int) rfl rfl (by omega) (by omega)) ?_
   refine Dq rfl (.g rfl rfl rfl) rfl (fun _ h=>h) (Yo es23 rfl rfl hxb (by omega)) ?_
   refine Dq rfl (.g rfl rfl rfl) rfl (fun _ h=>h) (yl_ldT (y:=(eAt q.d (q.i-1))) 0 (q.i-1) 0 rfl rfl hxb rfl ixC_len hj8 rfl na3) ?_
   refine De rfl (fun _ h=>h) ?_
   refine WL.callvp (.g rfl rfl rfl) rfl en17 rfl rfl (fun w hw=>sort1_any H Hm ke ks b1 am cm l h1 hm (eAt q.d q.i) (eAt q.d (q.i-1)) w (hw.vs _ (by simp)) (hw.vs _ (by simp)) (hqx _ (List.mem_of_getElem? hj9)) (hqx _ (List.mem_of_getElem? hj8))) ?_
   refine Ln (Ed ?_)
   refine Dq rfl (.g rfl rfl rfl) rfl (fun _ h=>h) (yl_lt rfl rfl) ?_
   exact Gi 12 (fun _ h=>h) rfl rfl rfl
  refine WD.nil (fun _ h=>h) ?_
  refine Et ?_
  refine Cc rfl (fun hc1=>?_) (fun hc1=>?_)
  ·
   obtain ⟨hg,hlt8⟩:0<q.i∧cmpT (nmAt l (eAt q.d q.i)) (nmAt l (eAt q.d (q.i-1)))<0:=by simpa using hc1
   have hj8s:(q.d.set q.i (eAt q.d (q.i-1)))[q.i-1]? = some (eAt q.d (q.i-1)):=by rw [List.getElem?_set_ne (by omega)]; exact hj8
   have hsp:q.i-1+1=q.i:=by omega
   have hqs:InsInv (ltN l) d0 ((q.d.set q.i (eAt q.d (q.i-1))).set (q.i-1) (eAt q.d q.i)) g.i (q.i-1):=by
     have h:=ins_swap (j:=q.i-1) (a:=(eAt q.d q.i)) (b:=(eAt q.d (q.i-1))) (by rw [hsp]; exact hq) (by rw [hsp]; exact hj9) hj8 (cmpT_neg.1 hlt8)
     rw [hsp] at h; exact h
   refine Ck (Et (Cs (Cb ?_)))
   refine CU (fun _=>true) [] [15,16,17] (.q false 0 (.q false 1 (.q false 2 (.q false 3 (.q false 4 (.q false 5 (.q false 6 (.q false 7 (.q false 8 (.q true 9 (.q false 10 (.q false 11 (.q false 12 (.q true 13 (.q false 14 .nil))))))))))))))) mixed (by kernel_rfl) (fun _ _ _ d _ _ h=>by cases d<;>exact h) ?_
   refine Uq rfl (.inl rfl) rfl (fun _ h=>h) (Ym rfl) ?_
   refine Uq rfl (.inl rfl) rfl (fun _ h=>h) (Ym rfl) ?_
   refine Uq rfl (.inl rfl) rfl (fun _ h=>h) (Ym rfl) ?_
   refine Uq rfl (.inl rfl) rfl (fun _ h=>h) (Ym rfl) ?_
   refine Uq rfl (.inl rfl) rfl (fun _ h=>h) (yl_subv ((q.i-1:Nat):Int) rfl rfl (by omega) (by omega)) ?_
   refine Uq rfl (.inl rfl) rfl (fun _ h=>h) (Ym rfl) ?_
   refine Uq rfl (.inl rfl) rfl (fun _ h=>h) (Ym rfl) ?_
   refine Uq rfl (.inl rfl) rfl (fun _ h=>h) (yl_subv ((q.i-1:Nat):Int) rfl rfl (by omega) (by omega)) ?_
   refine Uq rfl (.inl rfl) rfl (fun _ h=>h) (Yo es23 rfl rfl hxb (by omega)) ?_
   refine Uq rfl (.inl rfl) rfl (fun _ h=>h) (yl_ldT (y:=(eAt q.d (q.i-1))) 0 (q.i-1) 0 rfl rfl hxb rfl ixC_len hj8 rfl na3) ?_
   refine Uq rfl (.inl rfl) rfl (fun _ h=>h) (Ym rfl) ?_
   refine Uq rfl (.inl rfl) rfl (fun _ h=>h) (Ym rfl) ?_
   refine Uq rfl (.inl rfl) rfl (fun _ h=>h) (Yo es23 rfl rfl hxb (by omega)) ?_
   refine Uq rfl (.inl rfl) rfl (fun _ h=>h) (yl_ldT (y:=(eAt q.d q.i)) 0 q.i 0 rfl rfl hxb rfl ixC_len hj9 rfl na3) ?_
   refine Uq rfl (.inl rfl) rfl (fun _ h=>h) (Yo es23 rfl rfl hxb (by omega)) ?_
   refine WU.nil (fun _ h=>h) ?_
   refine WS.e rfl ?_
   refine WL.storeT (y:=(eAt q.d q.i)) 0 q.i 0 (eAt q.d (q.i-1)) (.inl rfl) rfl rfl rfl hxb rfl ixC_len hj9 sz3 rfl rfl (by decide) rfl ?_
   refine Ln (Es ?_)
   refine WS.e rfl ?_
   refine V0 (Yo es23 rfl rfl hxb (by omega)) ?_
   refine Ln (Es ?_)
   refine WS.e rfl ?_
   refine WL.storeT (y:=(eAt q.d (q.i-1))) 0 (q.i-1) 0 (eAt q.d q.i) (.inl rfl) rfl rfl rfl hxb rfl ixC_len hj8s sz3 rfl rfl (by decide) rfl ?_
   refine Ln (Es ?_)
   refine WS.nil ?_
   refine Eb (Et (Cr ?_))
   refine V0 (Ym rfl) ?_
   refine V0 (yl_subv ((q.i-1:Nat):Int) rfl rfl (by omega) (by omega)) ?_
   refine V0 (Ya rfl) ?_
   refine Ln ?_
   exact Ea (⟨q.i-1,(q.d.set q.i (eAt q.d (q.i-1))).set (q.i-1) (eAt q.d q.i)⟩:GI) (by show q.i-1<q.i; omega) hqs (sc rfl (sc rfl (sc rfl (sc rfl (sc rfl (sc rfl sn)))))) (fun _ h=>h)
  ·
   have hsn:SortedUp (ltN l) q.d (g.i+1):=by
     by_cases hz:q.i=0
     · rw [hz] at hq; exact ins_end0 hq
     · have hnl:¬cmpT (nmAt l (eAt q.d q.i)) (nmAt l (eAt q.d (q.i-1)))<0:=fun h=>by simp [h] at hc1; omega
       have hsp:q.i-1+1=q.i:=by omega
       exact ins_end (R:=ltN l) (d0:=d0) (i:=g.i) (fun a b c h1 h2=>ltT_trans _ _ _ h1 h2) (j:=q.i-1) (a:=(eAt q.d q.i)) (b:=(eAt q.d (q.i-1))) (by rw [hsp]; exact hq) (by rw [hsp]; exact hj9) hj8 (sorted_lt hn hqx hqn hj9 hj8 (by omega) hnl)
   refine Ce (Ex (Ex (Ebh (Eb (Et ?_)))))
   refine Cr ?_
   refine V0 (Ym rfl) ?_
   refine V0 (Yi rfl rfl rfl (by omega)) ?_
   refine V0 (Ya rfl) ?_
   refine Ln ?_
   exact Ea (⟨g.i+1,q.d⟩:GI) (by show _-(g.i+1)<_; omega) ⟨hq.perm,hsn⟩ (sc rfl (sc rfl (sc rfl (sc rfl (sc rfl sn))))) (fun _ h=>h)
 ·
  have hge:d0.length≤g.i:=by simp at hc0; omega
  refine Ce (Ex (Ex (Ebh ?_)))
  refine WE.end0 rfl fun w' hw=>?_
  exact ⟨g.d,rfl,⟨hp,sortedUp_le hs (by rw [hp.length_eq]; exact hge)⟩,hw⟩
end Go.Proofs.Ytinnlppbkhhoiaa
end
section
namespace Go.Proofs.Ytinnlppbkhhoiaa
open Go.Bw
set_option linter.unusedVariables false
set_option linter.unusedSimpArgs false
theorem wrapU {x:Nat} (h:x≤4):IntKind.u64.wrap (x:Int)=(x:Int):=by rcases (show x=0∨x=1∨x=2∨x=3∨x=4 by omega) with rfl | rfl | rfl | rfl | rfl<;>rfl
theorem doneS_at {l:List TMod} {d:List Nat} {s:Tx} (h:(placeL l s).isSome=true):((if d.contains ((idxOf s (namesL l) 0).getD 0)=true then (1:Int) else 0)==0) = !doneS l d s:=by
 obtain ⟨j,hj⟩:=Option.isSome_iff_exists.1 h
 have hj2:idxOf s (namesL l) 0=some j:=hj
 rw [hj2]
 unfold doneS
 rw [hj]
 show ((if d.contains j=true then (1:Int) else 0)==0) = !d.contains j
 cases d.contains j<;>rfl
theorem en43:Enters Try.prog 43:=enters_of Try.func43 (by kernel_rfl) rfl
theorem ui67:Try.prog.underlying 67=some (.int .u64):=by kernel_rfl
theorem en29:Enters Try.prog 29:=enters_of Try.func29 (by kernel_rfl) rfl
theorem en28:Enters Try.prog 28:=enters_of Try.func28 (by kernel_rfl) rfl
theorem na49:nonAgg Try.prog 49=true:=by kernel_rfl
theorem na44:nonAgg Try.prog 44=true:=by kernel_rfl
theorem um49:Try.prog.underlying 49=some (.map 3 3):=by kernel_rfl
theorem en20:Enters Try.prog 20:=enters_of Try.func20 (by kernel_rfl) rfl
theorem en31:Enters Try.prog 31:=enters_of Try.func31 (by kernel_rfl) rfl
theorem pdqsort_any (H Hm:View) (ke ks b1:Nat) (am:Option Addr) (cm:Nat) (l:List TMod) (h1:vc H b1 0=some (.slice am l.length cm)) (hm:Sl (rdMod ke ks) 5 Hm am cm l) (a:Option Addr) (c:Nat) (d0:List Nat) (hn:(namesL l).Nodup) (hd:∀x ∈ d0,x<l.length) (hnd:d0.Nodup) (h4:d0.length≤4) (lim:Int) (w:World) (hw:Ws w (List.flatMap Asr.ids [osT 3 1 ixC a c d0]) [osT 3 1 ixC a c d0] [H,Hm] w) :
   Calls Try.prog 28 #[.slice a d0.length c,.int .i64 0,.int .i64 (d0.length:Int),.int .i64 lim,.func (.func 17) #[] #[.pointer (some ⟨b1,0,none⟩)]] w fun e w'=>∃d:List Nat,e = .returned (.tuple #[])∧(d.Perm d0∧SortedUp (ltN l) d d.length)∧Ws w (List.flatMap Asr.ids [osT 3 1 ixC a c d0]) [osT 3 1 ixC a c d] [H,Hm] w':=by
 refine enter Try.func28 rfl 148 rfl rfl ?_
 refine CWd (W':=Ws w (List.flatMap Asr.ids [osT 3 1 ixC a c d0]) [osT 3 1 ixC a c d0] [H,Hm]) (fun _ e=>by subst e; exact hw) ?_
 refine Cs (Cr ?_)
 refine V0 (Ya rfl) ?_
 refine Ln (Et (Cs (Cr ?_)))
 refine V0 (Ya rfl) ?_
 refine Ln (Et (Cb ?_))
 refine CW (ι:=Unit) (fun g=>[]) [(0,_),(1,_),(2,_),(4,_)] (fun g=>True) (fun g=>0) () trivial (sc rfl (sc rfl (sc rfl (sc rfl sn)))) ?_
 intro g _
 refine Cb (Cs (Cr ?_))
 refine V0 (Ym rfl) ?_
 refine V0 (Ym rfl) ?_
 refine V0 (yl_subv (d0.length:Int) rfl rfl (by omega) (by omega)) ?_
 refine V0 (Ya rfl) ?_
 refine Ln (Et (Cs (Cs (Cr ?_))))
 refine V0 (Ym rfl) ?_
 refine V0 (yl_le rfl rfl) ?_
 refine Ln (Et ?_)
 refine Cc rfl (fun hc0=>?_) (fun hc0=>?_)
 ·
  refine Cs (Cr ?_)
  refine V0 (Ym rfl) ?_
  refine V0 (Ym rfl) ?_
  refine V0 (Ym rfl) ?_
  refine V0 (Ym rfl) ?_
  refine Lf 0 rfl ?_
  refine Lw (ι:=List Nat) [_] _ (.inl rfl) rfl en43 rfl rfl (fun _=>.tuple #[]) (fun d=>[osT 3 1 ixC a c d]) (fun d=>d.Perm d0∧SortedUp (ltN l) d d.length) [H,Hm] (by simp) (fun w hw=>insSort_any H Hm ke ks b1 am cm l h1 hm a c d0 hn hd hnd h4 w hw) ?_
  intro d hdr
  refine Ln (Et (Crt (Er (Ebr (Er ?_)))))
  refine Ebr ?_
  refine WE.ret0 rfl fun w' hw=>?_
  exact ⟨d,rfl,hdr,hw⟩
 ·
  exfalso
  simp at hc0
  omega
theorem sortFunc_any (H Hm:View) (ke ks b1:Nat) (am:Option Addr) (cm:Nat) (l:List TMod) (h1:vc H b1 0=some (.slice am l.length cm)) (hm:Sl (rdMod ke ks) 5 Hm am cm l) (a:Option Addr) (c:Nat) (d0:List Nat) (hn:(namesL l).Nodup) (hd:∀x ∈ d0,x<l.length) (hnd:d0.Nodup) (h4:d0.length≤4) (w:World) (hw:Ws w (List.flatMap Asr.ids [osT 3 1 ixC a c d0]) [osT 3 1 ixC a c d0] [H,Hm] w) :
   Calls Try.prog 16 #[.slice a d0.length c,.func (.func 17) #[] #[.pointer (some ⟨b1,0,none⟩)]] w fun e w'=>∃d:List Nat,e = .returned (.tuple #[])∧(d.Perm d0∧SortedUp (ltN l) d d.length)∧Ws w (List.flatMap Asr.ids [osT 3 1 ixC a c d0]) [osT 3 1 ixC a c d] [H,Hm] w':=by
 refine enter Try.func16 rfl 14 rfl rfl ?_
 refine CWd (W':=Ws w (List.flatMap Asr.ids [osT 3 1 ixC a c d0]) [osT 3 1 ixC a c d0] [H,Hm]) (fun _ e=>by subst e; exact hw) ?_
 refine Cs (Cr ?_)
 refine V0 (Ym rfl) ?_
 refine V0 (Yn es23 rfl) ?_
 refine V0 (Ya rfl) ?_
 refine Ln (Et (Cr ?_))
 refine V0 (Ym rfl) ?_
 refine V0 (Ym rfl) ?_
 refine V0 (Ym rfl) ?_
 refine V0 (yl_cvi ui3 ui67 rfl) ?_
 rw [wrapU h4]
 refine Lp (.inl rfl) rfl en29 rfl (fun w hw=>bitsLen_any _ w h4) ?_
 refine V0 (Ym rfl) ?_
 refine Lf 0 rfl ?_
 refine Lw (ι:=List Nat) [_] _ (.inl rfl) rfl en28 rfl rfl (fun _=>.tuple #[]) (fun d=>[osT 3 1 ixC a c d]) (fun d=>d.Perm d0∧SortedUp (ltN l) d d.length) [H,Hm] (by simp) (fun w hw=>pdqsort_any H Hm ke ks b1 am cm l h1 hm a c d0 hn hd hnd h4 _ w hw) ?_
 intro d hdr
 refine Ln ?_
 refine WE.end0 rfl fun w' hw=>?_
 exact ⟨d,rfl,hdr,hw⟩
theorem sort2_any (H8 Hd H4 Hg:View) (b8 b33 b4 gp gm:Nat) (l:List TMod) (d:List Nat) (h8:vc H8 b8 0=some (.map (some b33))) (hd:Hd b33=some (gobj (fun n:Int=>Value.int .i64 n) (tabD d 0) d.length)) (h4:vc H4 b4 0=some (.pointer (some ⟨gp,0,none⟩))) (hg1:vc Hg gp 1=some (.map (some gm))) (hg2:Hg gm=some (gobj st (tabZ (namesL l) 0) l.length)) (s:Tx) (w:World) (hH8:Le H8 w) (hHd:Le Hd w) (hH4:Le H4 w) (hHg:Le Hg w) (hs:(placeL l s).isSome=true) :
   Calls Try.prog 20 #[st s,.pointer (some ⟨b8,0,none⟩),.pointer (some ⟨b4,0,none⟩)] w fun e w'=>e = .returned (.bool (!doneS l d s))∧Ext w w':=by
 refine enter Try.func20 rfl 14 rfl rfl ?_
 refine CWd (W':=Ws w [] [] [H8,Hd,H4,Hg]) (fun _ e=>by subst e; exact Ws.init (by simp [hH8,hHd,hH4,hHg])) ?_
 refine Cs (Cr ?_)
 refine V0 (Ya rfl) ?_
 refine Ln (Et (Cs ?_))
 refine WC.draws0 [(0,true),(1,true),(2,true),(3,true),(4,true),(5,true),(6,true),(7,true),(8,true),(9,true)] mixed (by kernel_rfl) (fun _ _ _ d _ h=>by cases d<;>exact h) ?_
 refine Dq rfl (.inl rfl) rfl (fun _ h=>h) (yl_ld 0 na49 rfl rfl (h8)) ?_
 refine Dq rfl (.inl rfl) rfl (fun _ h=>h) (yl_ld 2 na44 rfl rfl (h4)) ?_
 refine Dq rfl (.inl rfl) rfl (fun _ h=>h) (yl_nil rfl) ?_
 refine Dq rfl (.inl rfl) rfl (fun _ h=>h) (Yf fo53_1 rfl) ?_
 refine Dq rfl (.inl rfl) rfl (fun _ h=>h) (yl_ld 3 na51 rfl rfl (hg1)) ?_
 refine Dq rfl (.inl rfl) rfl (fun _ h=>h) (Ym rfl) ?_
 refine Dq rfl (.inl rfl) rfl (fun _ h=>h) (yl_glookv 3 rfl keyStr um51 us9 zr3 rfl rfl (hg2)) ?_
 rw [(tabZ_get _ _).1]
 refine Dq rfl (.inl rfl) rfl (fun _ h=>h) (yl_glookv 1 rfl keyInt um49 ui3 zr3 rfl rfl (hd)) ?_
 rw [tabD_get]
 refine Dq rfl (.inl rfl) rfl (fun _ h=>h) (yl_eq rfl rfl) ?_
 refine Dq rfl (.inl rfl) rfl (fun _ h=>h) (Ya rfl) ?_
 refine WD.nil (fun _ h=>h) ?_
 refine Et (Crt ?_)
 refine WE.ret1 rfl rfl fun w' hw=>?_
 exact ⟨by rw [←doneS_at hs],hw.fr⟩
theorem indexFunc_any (H:View) (ax:Option Addr) (cs:Nat) (ss:List Tx) (hss:Sl rdStr 1 H ax cs ss) (H8 Hd H4 Hg:View) (b8 b33 b4 gp gm:Nat) (l:List TMod) (d:List Nat) (h8:vc H8 b8 0=some (.map (some b33))) (hd:Hd b33=some (gobj (fun n:Int=>Value.int .i64 n) (tabD d 0) d.length)) (h4:vc H4 b4 0=some (.pointer (some ⟨gp,0,none⟩))) (hg1:vc Hg gp 1=some (.map (some gm))) (hg2:Hg gm=some (gobj st (tabZ (namesL l) 0) l.length)) (w:World) (hH:Le H w) (hH8:Le H8 w) (hHd:Le Hd w) (hH4:Le H4 w) (hHg:Le Hg w) (hpl:∀s ∈ ss,(placeL l s).isSome=true) :
   Calls Try.prog 31 #[.slice ax ss.length cs,.func (.func 20) #[] #[.pointer (some ⟨b8,0,none⟩),.pointer (some ⟨b4,0,none⟩)]] w fun e w'=>e = .returned (.int .i64 (ixD l d ss))∧Ext w w':=by
 have hsc:=hss.cap
 have hsm:=hss.max
 refine enter Try.func31 rfl 19 rfl rfl ?_
 refine CWd (W':=Ws w [] [] [H,H8,Hd,H4,Hg]) (fun _ e=>by subst e; exact Ws.init (by simp [hH,hH8,hHd,hH4,hHg])) ?_
 refine Cs (Cr ?_)
 refine V0 (Ya rfl) ?_
 refine Ln (Et (Cs (Cs (Cr ?_))))
 refine V0 (Ym rfl) ?_
 refine V0 (Yn es27 rfl) ?_
 refine V0 (Ym rfl) ?_
 refine Ln (Et (Cb ?_))
 refine CW (ι:=Nat) (fun i=>[(8,.int .i64 (i:Int))]) [(0,_),(1,_),(7,_)] (fun i=>i≤ss.length∧∀s ∈ ss.take i,doneS l d s=true) (fun i=>ss.length-i) 0 ⟨Nat.zero_le _,by simp⟩ (sc rfl (sc rfl (sc rfl (sc rfl sn)))) ?_
 intro i ⟨hi,hall⟩
 refine Cs (Cr ?_)
 refine V0 (yl_lt rfl rfl) ?_
 refine Ln (Et (Cs ?_))
 refine Cc rfl (fun hc0=>?_) (fun hc0=>?_)
 ·
  have hlt:i<ss.length:=by simpa using hc0
  obtain ⟨s,hsi⟩:∃q,ss[i]? = some q:=⟨_,List.getElem?_eq_getElem hlt⟩
  obtain ⟨pbs,pos,has,hrs⟩:=hss.elt i s hsi
  have hrs:RdC H pbs (pos+i*1) (strC s):=hrs
  refine Ck (Et (Cs (Cb (Cs (Cr ?_)))))
  refine V0 (Ym rfl) ?_
  refine V0 (Ya rfl) ?_
  refine Ln (Et (Cs (Cr ?_)))
  refine V0 (Ym rfl) ?_
  refine V0 (Ym rfl) ?_
  refine V0 (Ym rfl) ?_
  refine V0 (Yo es27 rfl rfl has (by omega)) ?_
  refine V0 (yl_ld 0 na9 rfl rfl (hrs 0 _ rfl)) ?_
  refine WL.callvp (.inl rfl) rfl en20 rfl rfl (fun w hw=>sort2_any H8 Hd H4 Hg b8 b33 b4 gp gm l d h8 hd h4 hg1 hg2 s w (hw.vs _ (by simp)) (hw.vs _ (by simp)) (hw.vs _ (by simp)) (hw.vs _ (by simp)) (hpl s (List.mem_of_getElem? hsi))) ?_
  refine Ln (Et ?_)
  refine Cc rfl (fun hc1=>?_) (fun hc1=>?_)
  ·
   have hf:doneS l d s=false:=by simpa using hc1
   refine Cs (Cr ?_)
   refine V0 (Ym rfl) ?_
   refine V0 (Ya rfl) ?_
   refine Ln (Et (Crt (Ebr (Er (Er ?_)))))
   refine Ebr (Er ?_)
   refine WE.ret1 rfl rfl fun w' hw=>?_
   exact ⟨by rw [ixD_no hsi hall hf],hw.fr⟩
  ·
   have hf:doneS l d s=true:=by simpa using hc1
   refine Ck (Eb (Et (Cr ?_)))
   refine V0 (Yi rfl rfl rfl (by omega)) ?_
   refine V0 (Ym rfl) ?_
   refine Ln ?_
   exact Ea (i+1) (by omega) ⟨by omega,mem_take_snoc hsi hall hf⟩ (sc rfl (sc rfl (sc rfl (sc rfl sn)))) (fun _ h=>h)
 ·
  have hge:¬i<ss.length:=by simpa using hc0
  rw [List.take_of_length_le (by omega)] at hall
  refine Ce (Ex (Ex (Ebh (Et (Cs ?_)))))
  refine Cr ?_
  refine V0 (Ya rfl) ?_
  refine Ln (Et (Crt ?_))
  refine WE.ret1 rfl rfl fun w' hw=>?_
  exact ⟨by rw [ixD_yes hall],hw.fr⟩
theorem containsFunc_any (H:View) (ax:Option Addr) (cs:Nat) (ss:List Tx) (hss:Sl rdStr 1 H ax cs ss) (H8 Hd H4 Hg:View) (b8 b33 b4 gp gm:Nat) (l:List TMod) (d:List Nat) (h8:vc H8 b8 0=some (.map (some b33))) (hd:Hd b33=some (gobj (fun n:Int=>Value.int .i64 n) (tabD d 0) d.length)) (h4:vc H4 b4 0=some (.pointer (some ⟨gp,0,none⟩))) (hg1:vc Hg gp 1=some (.map (some gm))) (hg2:Hg gm=some (gobj st (tabZ (namesL l) 0) l.length)) (w:World) (hH:Le H w) (hH8:Le H8 w) (hHd:Le Hd w) (hH4:Le H4 w) (hHg:Le Hg w) (hpl:∀s ∈ ss,(placeL l s).isSome=true) :
   Calls Try.prog 19 #[.slice ax ss.length cs,.func (.func 20) #[] #[.pointer (some ⟨b8,0,none⟩),.pointer (some ⟨b4,0,none⟩)]] w fun e w'=>e = .returned (.bool (!ss.all (doneS l d)))∧Ext w w':=by
 refine enter Try.func19 rfl 9 rfl rfl ?_
 refine CWd (W':=Ws w [] [] [H,H8,Hd,H4,Hg]) (fun _ e=>by subst e; exact Ws.init (by simp [hH,hH8,hHd,hH4,hHg])) ?_
 refine Cs (Cr ?_)
 refine V0 (Ya rfl) ?_
 refine Ln (Et (Cs (Cr ?_)))
 refine V0 (Ym rfl) ?_
 refine V0 (Ym rfl) ?_
 refine Lp (.inl rfl) rfl en31 rfl (fun w hw=>indexFunc_any H ax cs ss hss H8 Hd H4 Hg b8 b33 b4 gp gm l d h8 hd h4 hg1 hg2 w (hw.vs _ (by simp)) (hw.vs _ (by simp)) (hw.vs _ (by simp)) (hw.vs _ (by simp)) (hw.vs _ (by simp)) hpl) ?_
 refine V0 (yl_ge rfl rfl) ?_
 refine V0 (Ya rfl) ?_
 refine Ln (Et (Crt ?_))
 refine WE.ret1 rfl rfl fun w' hw=>?_
 exact ⟨by rw [←ixD_ge],hw.fr⟩
end Go.Proofs.Ytinnlppbkhhoiaa
end
section
namespace Go.Proofs.Ytinnlppbkhhoiaa
open Go.Bw
set_option linter.unusedVariables false
set_option linter.unusedSimpArgs false
def SortR (l:List TMod) (r:List Nat×Int):Prop:=(¬orderE l=0∧r=([],orderE l))∨(orderE l=0∧∃d,Ended l d∧r=sortV l d)
theorem sortR_eq {l:List TMod} {r r':List Nat×Int} (h:SortR l r) (h':SortR l r'):r=r':=by
 rcases h with ⟨h1,rfl⟩ | ⟨h1,d,hd,rfl⟩
 · rcases h' with ⟨_,rfl⟩ | ⟨h2,_⟩
   · rfl
   · exact absurd h2 h1
 · rcases h' with ⟨h2,_⟩ | ⟨_,d',hd',rfl⟩
   · exact absurd h1 h2
   · rw [ended_eq hd hd']
structure GQ where
 out:List Nat
 s:SP
theorem ready_of {l:List TMod} {d:List Nat} {x:Nat} {u:List Tx} (h:usesAt l x=u):(decide ((if d.contains x=true then (1:Int) else 0) > 0)||!u.all (doneS l d)) = !readyB l d x:=by
 unfold readyB
 rw [h]
 cases d.contains x<;>simp
theorem en15:Enters Try.prog 15:=enters_of Try.func15 (by kernel_rfl) rfl
theorem zr44:zeroOf Try.prog 44=some (.pointer none):=by kernel_rfl
theorem sz44:sizeP Try.prog 44=some 1:=by kernel_rfl
theorem el23:EltOk Try.prog 23 3 (.int .i64 0) 1 8:=eltOk_of (by kernel_rfl)
theorem en16:Enters Try.prog 16:=enters_of Try.func16 (by kernel_rfl) rfl
theorem zr49:zeroOf Try.prog 49=some (.map none):=by kernel_rfl
theorem sz49:sizeP Try.prog 49=some 1:=by kernel_rfl
theorem en19:Enters Try.prog 19:=enters_of Try.func19 (by kernel_rfl) rfl
theorem sort_any (H:View) (ke ks:Nat) (a:Option Addr) (c:Nat) (l:List TMod) (w:World) (hH:Le H w) (hm:Sl (rdMod ke ks) 5 H a c l) (hb:∀m ∈ l,wM m≤109951162777) :
   Calls Try.prog 6 #[.slice a l.length c] w fun e w'=>∃r:SP×List Nat×Int,e = .returned (.tuple #[.slice r.1.1 r.2.1.length r.1.2,.int .i64 r.2.2])∧Ext w w'∧Sl rdIx 1 (nv w w') r.1.1 r.1.2 r.2.1∧SortR l r.2:=by
 have hcap:=hm.cap
 have hmax:=hm.max
 refine enter Try.func6 rfl 68 rfl rfl ?_
 refine CWd (W':=Ws w [] [] [H]) (fun _ e=>by subst e; exact Ws.init (by simp [hH])) ?_
 refine Cs (Cr ?_)
 refine WL.box (.inl rfl) rfl rfl fun b1=>?_
 refine V0 (Ya rfl) ?_
 refine V0 (Ya rfl) ?_
 refine Ln (Et ?_)
 refine WC.scope ?_
 refine Cs (Cr ?_)
 refine V0 (Yd 0 rfl rfl rfl na22) ?_
 refine Ld (.inl rfl) rfl en15 rfl (fun r:Nat×Nat=>.tuple #[.pointer (if orderE l=0 then some ⟨r.1,0,none⟩ else none),.int .i64 (orderE l)]) (fun Hg r=>orderE l=0→vc Hg r.1 1=some (.map (some r.2))∧Hg r.2=some (gobj st (tabZ (namesL l) 0) l.length)) (fun w hw=>orderOf_any H ke ks a c l w (hw.vs _ (by simp)) hm hb) ?_
 intro Hg r14 hfg hr14
 refine V0 (Ym rfl) ?_
 refine V0 (Yx rfl rfl) ?_
 refine V0 (Yx rfl rfl) ?_
 refine WL.alloc (.inl rfl) rfl zr44 fun b4=>?_
 refine Lst 0 (.inl rfl) rfl rfl rfl sz44 rfl rfl rfl ?_
 refine V0 (Ya rfl) ?_
 refine Ln (Et (Cs (Cs (Cr ?_))))
 refine V0 (Ym rfl) ?_
 refine V0 (yl_ne rfl rfl) ?_
 refine Ln (Et ?_)
 refine Cc rfl (fun hc0=>?_) (fun hc0=>?_)
 ·
  have hne:¬orderE l=0:=by simpa using hc0
  refine Cs (Cr ?_)
  refine V0 (Ym rfl) ?_
  refine V0 (Ya rfl) ?_
  refine V0 (Ya rfl) ?_
  refine Ln (Et (Crt (Er ?_)))
  refine WE.scope_ret ?_
  refine WE.ret2 rfl rfl rfl fun w' hw=>?_
  exact ⟨((none,0),[],orderE l),rfl,hw.fr,Sl.nil,.inl ⟨hne,rfl⟩⟩
 ·
  have he0:orderE l=0:=by simpa using hc0
  have ho:=orderE_zero.1 he0
  obtain ⟨hg1,hg2⟩:=hr14 he0
  refine Ck (Et (Cs ?_))
  refine Crb 0 (.cells #[.pointer (some ⟨r14.1,0,none⟩)] 44 (0,0)) rfl (by rw [he0]; rfl) ?_
  refine WC.blkH 0 rfl fun H4 hH4=>?_
  have hv4:vc H4 b4 0=some (.pointer (some ⟨r14.1,0,none⟩)):=vc_blk hH4 rfl
  refine WC.blkH 0 rfl fun H1 hH1=>?_
  have hv1:vc H1 b1 0=some (.slice a l.length c):=vc_blk hH1 rfl
  refine Cr ?_
  refine V0 (Ya rfl) ?_
  refine LW (fun _ h=>h.osl_nil 3 1) ?_
  refine Ln (Et (Cs (Cs (Cr ?_))))
  refine V0 (yl_ld 0 na22 rfl rfl (hv1)) ?_
  refine V0 (Yn es22 rfl) ?_
  refine V0 (Ym rfl) ?_
  refine Ln (Et (Cb ?_))
  refine CK (ι:=Nat×SP) (fun g=>[(22,.int .i64 (g.1:Int)),(6,.slice g.2.1 (List.range g.1).length g.2.2)]) [(1,_),(2,_),(3,_),(4,_),(21,_)] (fun g=>Ws w [] [osT 3 1 ixC g.2.1 g.2.2 (List.range g.1)] [H1,H4,Hg,H]) (fun g=>g.1≤l.length) (fun g=>l.length-g.1) (0,(none,0)) (Nat.zero_le _) (sc rfl (sc rfl (sc rfl (sc rfl (sc rfl (sc rfl (sc rfl sn))))))) (fun _ h=>h) ?_
  intro g hgi
  refine Cs (Cr ?_)
  refine V0 (yl_lt rfl rfl) ?_
  refine Ln (Et (Cs ?_))
  refine Cc rfl (fun hc1=>?_) (fun hc1=>?_)
  ·
   have hlt0:g.1<l.length:=by simpa using hc1
   have hrl:=List.length_range (n:=g.1)
   have hfew:=ho.few
   refine Ck (Et (Cs (Cb (Cs (Cr ?_)))))
   refine V0 (Ym rfl) ?_
   refine V0 (Ya rfl) ?_
   refine Ln (Et (Cr ?_))
   refine V0 (Ym rfl) ?_
   refine V0 (Ym rfl) ?_
   refine Lb (.inl rfl) rfl el23 rfl rfl rfl rfl fun b27=>?_
   refine Lrb 0 (.cells (ixC g.1).toArray 3 (0,0)) rfl (rfl) ?_
   refine LA (g.1) 1 0 (.inl rfl) rfl el23 rfl rfl rfl rfl rfl rfl (by omega) (by omega) fun a28 c28=>?_
   refine V0 (Ya rfl) ?_
   refine Ln (Eb (Et (Cr ?_)))
   refine V0 (Yi rfl rfl rfl (by omega)) ?_
   refine V0 (Ym rfl) ?_
   refine Ln ?_
   rw [←List.range_succ]
   exact Ea ((g.1+1,(a28,c28)):Nat×SP) (by show _-(g.1+1)<_; omega) (by show g.1+1≤_; omega) (sc rfl (sc rfl (sc rfl (sc rfl (sc rfl (sc rfl (sc rfl sn))))))) (fun _ h=>Ws.drop (L:=[_]) h)
  ·
   have hge:g.1=l.length:=by simp at hc1; omega
   rw [hge]
   refine Ce (Ex (Ex (Ebh (Et (Cs ?_)))))
   refine Cr ?_
   refine V0 (Ym rfl) ?_
   refine V0 (yl_func rfl) ?_
   refine Lf 0 rfl ?_
   refine Lw (ι:=List Nat) [_] _ (.inl rfl) rfl en16 rfl rfl (fun _=>.tuple #[]) (fun d=>[osT 3 1 ixC g.2.1 g.2.2 d]) (fun d=>d.Perm (List.range l.length)∧SortedUp (ltN l) d d.length) [H1,H] (by simp) (fun w hw=>sortFunc_any H1 H ke ks b1 a c l hv1 hm g.2.1 g.2.2 (List.range l.length) ho.nd (by simp) List.nodup_range (by simpa using ho.few) w hw) ?_
   intro d hdr
   have hdl:(List.range l.length).length=d.length:=hdr.1.length_eq.symm
   have hdl2:d.length=l.length:=by rw [←hdl,List.length_range]
   rw [hdl]
   refine WL.oslview (rd:=rdIx) 0 rfl ixC_len (fun _ _ _ _ h=>h) fun H6 hH6=>?_
   refine Ln (Et (Cs (Cr ?_)))
   refine WL.gmk (fun n:Int=>Value.int .i64 n) (.inl rfl) rfl fun b33=>?_
   refine WL.alloc (.inl rfl) rfl zr49 fun b8=>?_
   refine Lst 0 (.inl rfl) rfl rfl rfl sz49 rfl rfl rfl ?_
   refine Ln (Et (Cs ?_))
   refine WC.blkH 0 rfl fun H8 hH8=>?_
   have hv8:vc H8 b8 0=some (.map (some b33)):=vc_blk hH8 rfl
   refine Cr ?_
   refine V0 (Ya rfl) ?_
   refine LW (fun _ h=>h.osl_nil 3 1) ?_
   refine Ln (Et (Cs ?_))
   refine WC.label ?_
   refine Et (Cs (Cb ?_))
   refine CK (ι:=GQ) (fun q=>[(9,.slice q.s.1 q.out.length q.s.2)]) [(1,_),(4,_),(6,_),(8,_)] (fun q=>Ws w [] [osT 3 1 ixC q.s.1 q.s.2 q.out,blk b33 (gobj (fun n:Int=>Value.int .i64 n) (tabD q.out 0) q.out.length)] [H8,H6,H1,H4,Hg,H]) (fun q=>Greedy l q.out) (fun q=>l.length-q.out.length) ⟨[],(none,0)⟩ Greedy.nil (sc rfl (sc rfl (sc rfl (sc rfl (sc rfl sn))))) (fun _ h=>h) ?_
   intro q hgr
   refine Cs (Cs (Cr ?_))
   refine V0 (Ym rfl) ?_
   refine V0 (Yn es23 rfl) ?_
   refine V0 (yl_ld 2 na22 rfl rfl (hv1)) ?_
   refine V0 (Yn es22 rfl) ?_
   refine V0 (yl_lt rfl rfl) ?_
   refine Ln (Et ?_)
   refine Cc rfl (fun hc2=>?_) (fun hc2=>?_)
   ·
    have hlt2:q.out.length<l.length:=by simpa using hc2
    have hfew:=ho.few
    refine Ck (Et (Cb (Cs (Cs (Cr ?_)))))
    refine V0 (Ym rfl) ?_
    refine V0 (Yn es23 rfl) ?_
    refine V0 (Ym rfl) ?_
    refine Ln (Et (Cb ?_))
    refine CW (ι:=Nat) (fun k=>[(41,.int .i64 (k:Int))]) [(1,_),(4,_),(6,_),(8,_),(9,_),(39,_),(40,_)] (fun k=>k≤d.length∧∀y e,y<k→d[y]? = some e→readyB l q.out e=false) (fun k=>d.length-k) 0 ⟨Nat.zero_le _,fun y e h=>by omega⟩ (sc rfl (sc rfl (sc rfl (sc rfl (sc rfl (sc rfl (sc rfl (sc rfl sn)))))))) ?_
    intro k ⟨hk,hno⟩
    refine Cs (Cr ?_)
    refine V0 (yl_lt rfl rfl) ?_
    refine Ln (Et (Cs ?_))
    refine Cc rfl (fun hc3=>?_) (fun hc3=>?_)
    ·
     have hlt:k<d.length:=by simpa using hc3
     obtain ⟨x,hxi⟩:∃q,d[k]? = some q:=⟨_,List.getElem?_eq_getElem hlt⟩
     obtain ⟨pbx,pox,hax,hrx⟩:=hH6.elt k x hxi
     have hrx:RdC H6 pbx (pox+k*1) (ixC x):=hrx
     have hxl:x<l.length:=by simpa using hdr.1.subset (List.mem_of_getElem? hxi)
     obtain ⟨mx,hmxi⟩:∃m,l[x]? = some m:=⟨_,List.getElem?_eq_getElem hxl⟩
     obtain ⟨pbz,poz,haz,rz,hrowz,hrdz⟩:=hm.elt x mx hmxi
     have hnz:=nmAt_get hmxi
     have hux:=usesAt_get hmxi
     refine Ck (Et (Cs (Cb (Cs (Cr ?_)))))
     refine V0 (Yo es23 rfl rfl hax (by omega)) ?_
     refine V0 (yl_ld 1 na3 rfl rfl (hrx 0 _ rfl)) ?_
     refine V0 (Ya rfl) ?_
     refine Ln (Et (Cs (Cs (Cr ?_))))
     refine V0 (yl_ld 0 na49 rfl rfl (hv8)) ?_
     refine V0 (Ym rfl) ?_
     refine V0 (yl_glook 1 keyInt um49 ui3 zr3 rfl rfl rfl) ?_
     rw [tabD_get]
     refine V0 (yl_gt rfl rfl) ?_
     refine V0 (Ym rfl) ?_
     apply WL.or 7 (x:=!mx.uses.all (doneS l q.out)) rfl rfl rfl rfl (.inl rfl) rfl rfl rfl rfl rfl
     ·
      intro hg0
      refine Lv (.g rfl rfl rfl) rfl (yl_ld 2 na22 rfl rfl (hv1)) ?_
      refine Lv (.g rfl rfl rfl) rfl (Ym rfl) ?_
      refine Lv (.g rfl rfl rfl) rfl (Yo es22 rfl rfl haz hxl) ?_
      refine Lv (.g rfl rfl rfl) rfl (Yf fo39_1 rfl) ?_
      refine Lv (.g rfl rfl rfl) rfl (yl_ld 5 na27 rfl rfl (hrowz 1 _ rfl)) ?_
      refine Lv (.g rfl rfl rfl) rfl (yl_func rfl) ?_
      refine Lp (.g rfl rfl rfl) rfl en19 rfl (fun w hw=>containsFunc_any H rz.a1 rz.c1 mx.uses hrdz.uses H8 (bv b33 (gobj (fun n:Int=>Value.int .i64 n) (tabD q.out 0) q.out.length)) H4 Hg b8 b33 b4 r14.1 r14.2 l q.out hv8 (by simp [bv]) hv4 hg1 hg2 w (hw.vs _ (by simp)) (hw.vs _ (by simp)) ((hw.blkview 1 rfl).vs _ (by simp)) (hw.vs _ (by simp)) (hw.vs _ (by simp)) (fun s hs=>by obtain ⟨j,hj⟩:=ho.uses mx (List.mem_of_getElem? hmxi) s hs; rw [hj]; rfl)) ?_
      exact Gt 7 rfl rfl rfl
     refine Ln (Et ?_)
     refine Cc rfl (fun hc4=>?_) (fun hc4=>?_)
     ·
      have hnr:readyB l q.out x=false:=by rw [ready_of hux] at hc4; simpa using hc4
      refine Ce (Ex (Ebh (Et (Cr ?_))))
      refine V0 (Yi rfl rfl rfl (by omega)) ?_
      refine V0 (Ym rfl) ?_
      refine Ln ?_
      exact Ea (k+1) (by omega) ⟨by omega,fun y e hy he=>by
          rcases Nat.lt_succ_iff_lt_or_eq.1 hy with h | h
          · exact hno y e h he
          · subst h; rw [hxi] at he; injection he with he; subst he; exact hnr⟩ (sc rfl (sc rfl (sc rfl (sc rfl (sc rfl (sc rfl (sc rfl (sc rfl sn)))))))) (fun _ h=>h)
     ·
      have hrd1:readyB l q.out x=true:=by rw [ready_of hux] at hc4; simpa using hc4
      have hnc:q.out.contains x=false:=by unfold readyB at hrd1; revert hrd1; cases q.out.contains x<;>simp
      have hbest:Best l q.out x:=best_of hdr.1 hdr.2 hxi hrd1 (fun y e hy he=>hno y e hy he)
      refine Ck (Et (Cs (Cr ?_)))
      refine V0 (yl_ld 0 na49 rfl rfl (hv8)) ?_
      refine V0 (Ym rfl) ?_
      refine V0 (yl_glook 1 keyInt um49 ui3 zr3 rfl rfl rfl) ?_
      rw [tabD_get,hnc,if_neg (by decide)]
      refine V0 ((show Yl _ _ _ _ (.int .i64 1) from yl_addn (a:=0) (b:=1) rfl rfl rfl rfl (by omega))) ?_
      refine WL.gset 1 keyInt (.inl rfl) um49 ui3 rfl rfl rfl rfl ?_
      rw [(tabD_put hnc).1,(tabD_put hnc).2]
      refine Ln (Et (Cs (Cr ?_)))
      refine V0 (Ym rfl) ?_
      refine V0 (Ym rfl) ?_
      refine Lb (.inl rfl) rfl el23 rfl rfl rfl rfl fun b64=>?_
      refine Lrb 0 (.cells (ixC x).toArray 3 (0,0)) rfl (rfl) ?_
      refine LA (x) 1 0 (.inl rfl) rfl el23 rfl rfl rfl rfl rfl rfl (by omega) (by omega) fun a65 c65=>?_
      refine V0 (Ya rfl) ?_
      refine Ln (Et (Ce (Ebm rfl (Ex (Ex ?_)))))
      refine Ebm rfl (Ex (Ebh ?_))
      exact Ea (⟨q.out++[x],(a65,c65)⟩:GQ) (by show _-(q.out++[x]).length<_; simp; omega) (.snoc hgr hbest) (sc rfl (sc rfl (sc rfl (sc rfl (sc rfl sn))))) (fun _ h=>Ws.drop (L:=[_]) h)
    ·
     have hge3:k=d.length:=by simp at hc3; omega
     have hnor:=noReady_of hdr.1 (fun y e hy=>hno y e (by have:=(List.getElem?_eq_some_iff.1 hy).1; omega) hy)
     refine Ce (Ex (Ex (Ebh (Et (Cs ?_)))))
     refine Cr ?_
     refine V0 (Ya rfl) ?_
     refine V0 (Ya rfl) ?_
     refine Ln (Et (Crt (Ebr (Er (Ebr ?_)))))
     refine Er ?_
     refine WE.scope_ret ?_
     refine WE.ret2 rfl rfl rfl fun w' hw=>?_
     exact ⟨((none,0),[],9),rfl,hw.fr,Sl.nil,.inr ⟨he0,q.out,⟨hgr,.inr hnor⟩,by rw [sortV,if_neg (by omega)]⟩⟩
   ·
    have hle:q.out.length=l.length:=by
      have h1:=nodup_le (greedy_lt hgr).2 (greedy_lt hgr).1
      simp at hc2
      omega
    refine Ce (Ex (Ex (Ebh (Et (Cs ?_)))))
    refine Cr ?_
    refine V0 (Ym rfl) ?_
    refine V0 (Ya rfl) ?_
    refine V0 (Ya rfl) ?_
    refine Ln (Et (Crt ?_))
    refine WE.scope_ret ?_
    refine WE.ret2 rfl rfl rfl fun w' hw=>?_
    exact ⟨(q.s,q.out,0),rfl,hw.fr,hw.slT 0 rfl ixC_len (fun _ _ _ _ h=>h),.inr ⟨he0,q.out,⟨hgr,.inl hle⟩,by rw [sortV,if_pos hle]⟩⟩
end Go.Proofs.Ytinnlppbkhhoiaa
end
section
namespace Go.Proofs.Ytinnlppbkhhoiaa
open Go.Bw
set_option linter.unusedVariables false
set_option linter.unusedSimpArgs false
open Go Go.RowKit Go.Maps Go.Sort Go.Shelf
open Go.Sort
def NeedR (l:List TMod) (nm:Tx) (r:List Tx×Int):Prop:=(¬orderE l=0∧r=([],orderE l))∨(orderE l=0∧placeL l nm=none∧r=([],5))∨(orderE l=0∧¬placeL l nm=none∧∃ns,r=(ns,0)∧SortedT ns∧∀s,s ∈ ns↔Go.Bw.Reach l nm s)
theorem needR_eq {l:List TMod} {nm:Tx} {r r':List Tx×Int} (h:NeedR l nm r) (h':NeedR l nm r'):r=r':=by
 rcases h with ⟨h1,rfl⟩ | ⟨h1,h2,rfl⟩ | ⟨h1,h2,ns,rfl,h3,h4⟩<;>rcases h' with ⟨k1,rfl⟩ | ⟨k1,k2,rfl⟩ | ⟨k1,k2,ns',rfl,k3,k4⟩
 · rfl
 · exact absurd k1 h1
 · exact absurd k1 h1
 · exact absurd h1 k1
 · rfl
 · exact absurd h2 k2
 · exact absurd h1 k1
 · exact absurd k2 h2
 · rw [sortedT_eq h3 k3 fun s=>(h4 s).trans (k4 s).symm]
structure GNd where
 nx:List Tx
 s:SP
 M:List (GEnt Tx)
 k:Nat
 p:Nat
theorem flat_strC (xs:List Tx):xs.flatMap strC=xs.map st:=by rw [List.map_eq_flatMap]; rfl
theorem toXs {P:Program} {ops:Array Oper} {Q:Exit→Act→World→Prop} {n:Nat} {ds:List Deferred} {l:List (Nat×Value)} {w0:World} {F:List Nat} {L:List Asr} {Vs:List View} {rest:List Oper} {e c:Nat} {a:Option Addr} {xs:List Tx} (i:Nat) (hL:L[i]? = some (osT e 1 strC a c xs))
   (h:WL P ops Q n ds l (Ws w0 F (L.set i (osX e (.slice a xs.length c) (xs.map st))) Vs) rest):WL P ops Q n ds l (Ws w0 F L Vs) rest:=
 WL.toX i (by rw [hL]; show some (osl e 1 _ _ (xs.flatMap strC))=_; rw [flat_strC]) (by simp) h
def msT (ks:List Tx):List Tx:=ks.mergeSort fun x y=>decide (x≤y)
theorem cloneO_any (H:View) (a:Option Addr) (c:Nat) (l:List Tx) (w:World) (hH:Le H w) (hm:Sl rdStr 1 H a c l) (hb:l.length≤1048576) :
   Calls Try.prog 21 #[.slice a l.length c] w fun e w'=>∃r:SP,e = .returned (.slice r.1 l.length r.2)∧Ws w [] [osT 9 1 strC r.1 r.2 l] [H] w':=by
 have hcap:=hm.cap
 have hmax:=hm.max
 refine enter Try.func21 rfl 8 rfl rfl ?_
 refine CWd (W':=Ws w [] [] [H]) (fun _ e=>by subst e; exact Ws.init (by simp [hH])) ?_
 refine Cs (Cr ?_)
 refine V0 (Ya rfl) ?_
 refine Ln (Et (Cs (Cs (Cr ?_))))
 refine V0 (Ym rfl) ?_
 refine V0 (yl_eqnil es27 rfl) ?_
 refine Ln (Et ?_)
 refine Cc rfl (fun hc0=>?_) (fun hc0=>?_)
 ·
  have hnil:l=[]:=by
    cases l with
    | nil=>rfl
    | cons x r=>obtain ⟨b,o,h,_⟩:=hm.elt 0 x rfl; rw [h] at hc0; cases hc0
  refine Cs (Cr ?_)
  refine V0 (Ya rfl) ?_
  refine Ln (Et (Crt (Er ?_)))
  refine WE.ret1 rfl rfl fun w' hw=>?_
  subst hnil
  exact ⟨(none,0),rfl,hw.osl_nil 9 1⟩
 ·
  refine Ck (Et (Cs (Cr ?_)))
  refine WL.bslice (.inl rfl) rfl el27 rfl rfl rfl fun b5=>?_
  refine WL.asOsl (size:=1) 0 rfl (Nat.le_refl 0) (Nat.zero_le _) rfl ?_
  refine WL.reosl 0 ([]:List Tx).length (([]:List Tx).flatMap strC) rfl rfl rfl ?_
  refine V0 (Ym rfl) ?_
  refine WL.appendL (ys:=l) (xs:=[]) 0 (fun _=>H) (.inl rfl) rfl el27 rfl rfl rfl (fun w hw=>⟨hw.vs H (by simp),hm⟩) (fun _ _ _ _ h=>h) strC_len str_one (by simp; omega) (by simp; omega) fun a7 c7=>?_
  refine V0 (Ya rfl) ?_
  refine Ln (Et (Crt ?_))
  refine WE.ret1 rfl rfl fun w' hw=>?_
  exact ⟨(a7,c7),rfl,hw⟩
theorem keys_any (b31:Nat) (w:World) :
   Calls Try.prog 23 #[.map (some b31)] w fun e w'=>∃kb:Nat,e = .returned (.func (.func 34) #[] #[.pointer (some ⟨kb,0,none⟩)])∧Ws w [] [blk kb (.cells #[.map (some b31)] 51 (0,0))] [] w':=by
 refine enter Try.func23 rfl 4 rfl rfl ?_
 refine CWd (W':=Ws w [] [] []) (fun _ e=>by subst e; exact Ws.init (by simp)) ?_
 refine Cs (Cr ?_)
 refine WL.box (.inl rfl) rfl rfl fun b1=>?_
 refine V0 (Ya rfl) ?_
 refine Ln (Et (Cs (Cr ?_)))
 refine V0 (yl_func rfl) ?_
 refine V0 (Ya rfl) ?_
 refine Ln (Et (Crt ?_))
 refine WE.ret1 rfl rfl fun w' hw=>?_
 exact ⟨b1,rfl,hw⟩
theorem sorts_any (m:Nat):AnyZ.SortsIn Try.prog Try.sorted22_ren Fence.wide m:=
 ⟨fun blk off cap ss W hH hblk hsz=>callsIn_wide.2 (AnyM.slices_Sort_string Try.sort33 blk off cap ss W hH hblk hsz),fun p cap W=>callsIn_wide.2 (AnyM.slices_Sort_string_none Try.sort33 p cap W)⟩
theorem sortedKeys_any (kb b31 k:Nat) (M:List (GEnt Tx)) (w:World) (hkb:w.heap[kb]? = some (.cells #[.map (some b31)] 51 (0,0))) (hb:w.heap[b31]? = some (gobj st M k)) (h:MapOk M k) (h16:M.length≤16) :
   Calls Try.prog 22 #[.func (.func 34) #[] #[.pointer (some ⟨kb,0,none⟩)]] w fun e w'=>∃v,e = .returned v∧Ext w w'∧w'.ownsRow w.heap.size 9 1 v (msT (M.map (·.1))).length ((msT (M.map (·.1))).flatMap strC):=by
 obtain ⟨D0,hown,hperm,hsz⟩:=ownsMap_gobj (k:=9) us9 h hb
 have hseq:SeqGives Fence.wide 2 Try.prog 34 #[.pointer (some ⟨kb,0,none⟩)] encStr (fun ss=>ss.Perm (strKeys D0)) (Maps.size D0) w:=
   AnyZ.keys_gives (ρ:=Try.keys23_ren) { Try.keys23 with } Fence.wide _ trivial rfl (by omega) kb b31 _ D0 w (lt_of_heap hkb) (cell_of_heap hkb rfl) hown
 have hs:=AnyZ.sorted_in Try.sorted22 Fence.wide 5 trivial trivial trivial trivial rfl (by omega) (sorts_any _) (enters_of Try.func33 (by kernel_rfl) rfl) 34 #[.pointer (some ⟨kb,0,none⟩)] trivial (enters_of Try.func34 (by kernel_rfl) rfl) _ _ (by rw [hsz]; unfold maxLen; omega) (by rw [hsz]; omega) _ hseq
 refine ((callsIn_wide (n:=5)).1 hs).mono fun e w' ⟨v,ss,he,hS,hrow,_,hbl⟩=>⟨v,he,Ext.of_below hbl,?_⟩
 have hp:=hS.trans hperm
 have hm:ss.mergeSort (fun x y=>decide (x≤y))=msT (M.map (·.1)):=mergeSort_of_perm hp
 rw [hm] at hrow
 have hl:ss.length=(msT (M.map (·.1))).length:=by rw [←hm,List.length_mergeSort]
 rw [hl] at hrow
 rw [flat_strC]
 exact hrow
end Go.Proofs.Ytinnlppbkhhoiaa
end
section
namespace Go.Proofs.Ytinnlppbkhhoiaa
open Go.Bw
set_option linter.unusedVariables false
set_option linter.unusedSimpArgs false
theorem needs_arith {l:List TMod} {p:Nat} {ks r u:List Tx} {x:Tx} (h:p+(r.length+1)+remN l ks≤15) (hrs:remN l ks=remN l (ks++[x])+u.length):p+1+(r++u).length+remN l (ks++[x])≤15∧(r++u).length+remN l (ks++[x])<r.length+1+remN l ks:=by
 rw [List.length_append]
 omega
theorem nodup_sub_le {α:Type} [DecidableEq α]:∀{a b:List α},a.Nodup→(∀s ∈ a,s ∈ b)→a.length≤b.length
 | [],_,_,_=>Nat.zero_le _
 | x::r,b,hn,h=>by
   obtain ⟨h1,h2⟩:=List.nodup_cons.1 hn
   have h3:=nodup_sub_le (b:=b.erase x) h2 fun s hs=>(List.mem_erase_of_ne (fun e=>h1 (by rw [←e]; exact hs))).2 (h s (by simp [hs]))
   rw [List.length_erase_of_mem (h x (by simp))] at h3
   have:=List.length_pos_of_mem (h x (by simp))
   simp only [List.length_cons]
   omega
theorem sortedT_ms {ks:List Tx} (hn:ks.Nodup):SortedT (msT ks)∧∀s,s ∈ msT ks↔s ∈ ks:=sortedT_merge hn
theorem few_uses {l:List TMod} (ho:OrdOk l):∀m ∈ l,m.uses.length≤3:=fun m hm=>(okM (checkM_tot.1 (ho.mods m hm))).few.1
theorem reach_len {l:List TMod} (ho:OrdOk l) (hb:∀m ∈ l,wM m≤109951162777) {a s:Tx} (h:Go.Bw.Reach l a s):s.length≤maxLen:=by
 obtain ⟨j,hj⟩:=reach_place ho h
 obtain ⟨hlt,hnm⟩:=placeL_at hj
 rw [nmAt_get (List.getElem?_eq_getElem hlt)] at hnm
 have:=hb _ (List.getElem_mem hlt)
 unfold wM at this
 rw [←hnm]
 unfold maxLen
 omega
theorem needs_map {l:List TMod} (ho:OrdOk l) (hb:∀m ∈ l,wM m≤109951162777) {nm:Tx} {M:List (GEnt Tx)} {k p:Nat} (h:NeedSt M k p) (hw:NeedW l nm (M.map (·.1)) []):MapOk M k∧M.length≤16:=by
 have h4:M.length≤l.length:=by
   have h1:(M.map (·.1)).length≤(namesL l).length:=by
     refine nodup_sub_le h.nd fun s hs=>?_
     obtain ⟨j,hj⟩:=reach_place ho ((hw.fin s).1 hs)
     obtain ⟨hlt,hnm⟩:=placeL_at hj
     rw [←hnm,nmAt_get (List.getElem?_eq_getElem hlt)]
     exact List.mem_of_getElem? (names_get (List.getElem?_eq_getElem hlt))
   simpa [namesL] using h1
 have h5:=ho.few
 exact ⟨⟨h.nd,fun e he=>reach_len ho hb ((hw.fin e.1).1 (List.mem_map.2 ⟨e,he,rfl⟩)),by unfold maxLen; omega,h.born,h.clock⟩,by omega⟩
theorem en21:Enters Try.prog 21:=enters_of Try.func21 (by kernel_rfl) rfl
theorem en23:Enters Try.prog 23:=enters_of Try.func23 (by kernel_rfl) rfl
theorem en22:Enters Try.prog 22:=enters_of Try.func22 (by kernel_rfl) rfl
theorem needs_any (H:View) (ke ks:Nat) (a:Option Addr) (c:Nat) (l:List TMod) (nm:Tx) (w:World) (hH:Le H w) (hm:Sl (rdMod ke ks) 5 H a c l) (hb:∀m ∈ l,wM m≤109951162777) :
   Calls Try.prog 7 #[.slice a l.length c,st nm] w fun e w'=>∃r:SP×List Tx×Int,e = .returned (.tuple #[.slice r.1.1 r.2.1.length r.1.2,.int .i64 r.2.2])∧Ext w w'∧Sl rdStr 1 (nv w w') r.1.1 r.1.2 r.2.1∧NeedR l nm r.2:=by
 have hcap:=hm.cap
 have hmax:=hm.max
 refine enter Try.func7 rfl 72 rfl rfl ?_
 refine CWd (W':=Ws w [] [] [H]) (fun _ e=>by subst e; exact Ws.init (by simp [hH])) ?_
 refine Cs (Cr ?_)
 refine V0 (Ya rfl) ?_
 refine V0 (Ya rfl) ?_
 refine Ln (Et (Cs (Cr ?_)))
 refine V0 (Ym rfl) ?_
 refine Ld (.inl rfl) rfl en15 rfl (fun r:Nat×Nat=>.tuple #[.pointer (if orderE l=0 then some ⟨r.1,0,none⟩ else none),.int .i64 (orderE l)]) (fun Hg r=>orderE l=0→vc Hg r.1 1=some (.map (some r.2))∧Hg r.2=some (gobj st (tabZ (namesL l) 0) l.length)) (fun w hw=>orderOf_any H ke ks a c l w (hw.vs _ (by simp)) hm hb) ?_
 intro Hg r14 hfg hr14
 refine V0 (Ym rfl) ?_
 refine V0 (Yx rfl rfl) ?_
 refine V0 (Yx rfl rfl) ?_
 refine V0 (Ya rfl) ?_
 refine V0 (Ya rfl) ?_
 refine Ln (Et (Cs (Cs (Cr ?_))))
 refine V0 (Ym rfl) ?_
 refine V0 (yl_ne rfl rfl) ?_
 refine Ln (Et ?_)
 refine Cc rfl (fun hc0=>?_) (fun hc0=>?_)
 ·
  have hne:¬orderE l=0:=by simpa using hc0
  refine Cs (Cr ?_)
  refine V0 (Ym rfl) ?_
  refine V0 (Ya rfl) ?_
  refine V0 (Ya rfl) ?_
  refine Ln (Et (Crt (Er ?_)))
  refine WE.ret2 rfl rfl rfl fun w' hw=>?_
  exact ⟨((none,0),[],orderE l),rfl,hw.fr,Sl.nil,.inl ⟨hne,rfl⟩⟩
 ·
  have he0:orderE l=0:=by simpa using hc0
  have ho:=orderE_zero.1 he0
  obtain ⟨hg1,hg2⟩:=hr14 he0
  refine Ck (Et (Cs ?_))
  rw [if_pos he0]
  refine Cr ?_
  refine V0 (Ym rfl) ?_
  refine V0 (yl_nil rfl) ?_
  refine V0 (Yf fo53_1 rfl) ?_
  refine V0 (yl_ld 0 na51 rfl rfl (hg1)) ?_
  refine V0 (Ym rfl) ?_
  refine V0 (yl_glook2v 0 rfl keyStr um51 us9 zr3 rfl rfl (hg2)) ?_
  rw [(tabZ_get _ _).1,(tabZ_get _ _).2]
  refine V0 (Ym rfl) ?_
  refine V0 (Yx rfl rfl) ?_
  refine V0 (Yx rfl rfl) ?_
  refine V0 (Ya rfl) ?_
  refine V0 (Ya rfl) ?_
  refine Ln (Et (Cs (Cs (Cr ?_))))
  refine V0 (Ym rfl) ?_
  refine V0 (yl_not rfl) ?_
  refine Ln (Et ?_)
  refine Cc rfl (fun hc1=>?_) (fun hc1=>?_)
  ·
   have hnone:placeL l nm=none:=by
     have h9:(idxOf nm (namesL l) 0).isSome=false:=by simpa using hc1
     simpa [placeL] using h9
   refine Cs (Cr ?_)
   refine V0 (Ya rfl) ?_
   refine V0 (Ya rfl) ?_
   refine Ln (Et (Crt (Er ?_)))
   refine WE.ret2 rfl rfl rfl fun w' hw=>?_
   exact ⟨((none,0),[],5),rfl,hw.fr,Sl.nil,.inr (.inl ⟨he0,hnone,rfl⟩)⟩
  ·
   have hsome:(placeL l nm).isSome=true:=by simpa [placeL] using hc1
   obtain ⟨i0,hi0⟩:=Option.isSome_iff_exists.1 hsome
   have hil:=(placeL_at hi0).1
   obtain ⟨mi0,hmi0i⟩:∃m,l[i0]? = some m:=⟨_,List.getElem?_eq_getElem hil⟩
   obtain ⟨pbz,poz,haz,rz,hrowz,hrdz⟩:=hm.elt i0 mi0 hmi0i
   have hnz:=nmAt_get hmi0i
   have hus:usesN l nm=mi0.uses:=by unfold usesN; rw [hi0]; exact usesAt_get hmi0i
   have hf3:=few_uses ho
   have hu3:=hf3 _ (List.mem_of_getElem? hmi0i)
   have hfew:=ho.few
   have hrem:=remN_le hf3 []
   have hstart:NeedW l nm [] mi0.uses:=hus▸needW_start l nm
   refine Ck (Et (Cs ?_))
   rw [show idxOf nm (namesL l) 0=some i0 from hi0,Option.getD_some]
   refine Cr ?_
   refine WL.gmk st (.inl rfl) rfl fun b31=>?_
   refine V0 (Ya rfl) ?_
   refine Ln (Et (Cs (Cs (Cr ?_))))
   refine V0 (Ym rfl) ?_
   refine V0 (Ym rfl) ?_
   refine V0 (Yo es22 rfl rfl haz hil) ?_
   refine V0 (Yf fo39_1 rfl) ?_
   refine V0 (yl_ld 1 na27 rfl rfl (hrowz 1 _ rfl)) ?_
   refine Lw (ι:=SP) [] _ (.inl rfl) rfl en21 rfl rfl (fun r=>.slice r.1 mi0.uses.length r.2) (fun r=>[osT 9 1 strC r.1 r.2 mi0.uses]) (fun _=>True) [H] (by simp) (fun w hw=>(cloneO_any H rz.a1 rz.c1 mi0.uses w (hw.vs _ (by simp)) hrdz.uses (by omega)).mono fun e w' ⟨r,h1,h2⟩=>⟨r,h1,trivial,h2⟩) ?_
   intro r37 _
   refine toXs 0 rfl ?_
   refine V0 (Ya rfl) ?_
   refine Ln (Et (Cb ?_))
   refine CK (ι:=GNd) (fun g=>[(11,.slice g.s.1 g.nx.length g.s.2)]) [(0,_),(4,_),(5,_),(6,_),(10,_)] (fun g=>Ws w [] [osX 9 (.slice g.s.1 g.nx.length g.s.2) (g.nx.map st),blk b31 (gobj st g.M g.k)] [Hg,H]) (fun g=>NeedSt g.M g.k g.p∧NeedW l nm (g.M.map (·.1)) g.nx∧g.p+g.nx.length+remN l (g.M.map (·.1))≤15) (fun g=>g.nx.length+remN l (g.M.map (·.1))) ⟨mi0.uses,r37,[],0,0⟩ ⟨needSt_nil,hstart,by show 0+mi0.uses.length+remN l []≤15; omega⟩ (sc rfl (sc rfl (sc rfl (sc rfl (sc rfl (sc rfl sn)))))) (fun _ h=>h) ?_
   intro g ⟨hst,hwk,hbd⟩
   refine Cs (Cs (Cr ?_))
   refine V0 (Ym rfl) ?_
   refine V0 (Yn es27 rfl) ?_
   refine V0 (yl_gt rfl rfl) ?_
   refine Ln (Et ?_)
   refine Cc rfl (fun hc2=>?_) (fun hc2=>?_)
   ·
    obtain ⟨x,r,hnx⟩:∃x r,g.nx=x::r:=by
      cases h:g.nx with
      | nil=>rw [h] at hc2; cases hc2
      | cons x r=>exact ⟨x,r,rfl⟩
    rw [hnx] at hwk hbd
    have hnl:(x::r).length=r.length+1:=rfl
    have hnl2:g.nx.length=r.length+1:=by rw [hnx]; rfl
    refine Ck (Et (Cs (Cb (Cs ?_))))
    refine WC.shapeX 0 rfl fun hxc hxm hxa=>?_
    obtain ⟨xb,xo,hxa⟩:=hxa (by rw [List.length_map]; omega)
    obtain ⟨n,hnp,hget,hn0⟩:=hst.cnt x _ rfl
    have hput:=hst.put hnp hn0
    refine Cr ?_
    refine V0 (Ym rfl) ?_
    refine V0 (Ym rfl) ?_
    refine V0 (Yo (i:=0) es27 rfl rfl hxa (by omega)) ?_
    refine V0 (yl_ldX (v:=st x) 0 0 rfl rfl hxa (by omega) (by rw [hnx]; rfl) na9) ?_
    refine V0 (yl_glook 1 keyStr um51 us9 zr3 rfl rfl rfl) ?_
    rw [hget]
    refine V0 (Yi rfl rfl rfl (by omega)) ?_
    refine WL.gset 1 keyStr (.inl rfl) um51 us9 rfl rfl rfl rfl ?_
    refine Ln (Et (Cs (Cr ?_)))
    refine V0 (Ym rfl) ?_
    refine V0 (Ym rfl) ?_
    refine V0 (Yo (i:=0) es27 rfl rfl hxa (by omega)) ?_
    refine V0 (yl_ldX (v:=st x) 0 0 rfl rfl hxa (by omega) (by rw [hnx]; rfl) na9) ?_
    refine V0 (yl_glook 1 keyStr um51 us9 zr3 rfl rfl rfl) ?_
    rw [gget_gput]
    refine V0 (yl_eq rfl rfl) ?_
    refine Ln (Et ?_)
    refine Cc rfl (fun hc3=>?_) (fun hc3=>?_)
    ·
     have hz:n=0:=by
       have h9:=eq_of_beq hc3
       omega
     have hxn:=hn0.1 hz
     have hrx:=hwk.sound x (.inr (by simp))
     obtain ⟨j,hj⟩:=reach_place ho hrx
     have hjl:=(placeL_at hj).1
     obtain ⟨mj,hmji⟩:∃m,l[j]? = some m:=⟨_,List.getElem?_eq_getElem hjl⟩
     obtain ⟨pby,poy,hay,ry,hrowy,hrdy⟩:=hm.elt j mj hmji
     have hny:=nmAt_get hmji
     have huj:usesN l x=mj.uses:=by unfold usesN; rw [hj]; exact usesAt_get hmji
     have huj2:=usesAt_get hmji
     have hf3:=few_uses ho _ (List.mem_of_getElem? hmji)
     have hrs:=remN_step ho.nd hj hxn
     rw [huj2] at hrs
     have hky:(gput x (.int .i64 ((n+1:Nat):Int)) g.M g.k).map (·.1)=g.M.map (·.1)++[x]:=by rw [hput.2,if_pos hz]
     have hnext:NeedSt (gput x (.int .i64 ((n+1:Nat):Int)) g.M g.k) (gclock x g.M g.k) (g.p+1)∧NeedW l nm ((gput x (.int .i64 ((n+1:Nat):Int)) g.M g.k).map (·.1)) (r++mj.uses)∧g.p+1+(r++mj.uses).length+remN l ((gput x (.int .i64 ((n+1:Nat):Int)) g.M g.k).map (·.1))≤15:=by
       rw [hky]
       exact ⟨hput.1,huj▸hwk.new,(needs_arith hbd hrs).1⟩
     have hmun:(r++mj.uses).length+remN l ((gput x (.int .i64 ((n+1:Nat):Int)) g.M g.k).map (·.1))<g.nx.length+remN l (g.M.map (·.1)):=by
       rw [hky,hnl2]
       exact (needs_arith hbd hrs).2
     refine CU (fun _=>true) [] [13,14] (.q false 0 (.q false 1 (.q false 2 (.q false 3 (.q false 4 (.q true 5 (.q false 6 (.q false 7 (.q true 8 (.q true 9 (.q false 10 (.q false 11 (.q true 12 .nil))))))))))))) mixed (by kernel_rfl) (fun _ _ _ d _ _ h=>by cases d<;>exact h) ?_
     refine Uq rfl (.inl rfl) rfl (fun _ h=>h) (Ym rfl) ?_
     refine Uq rfl (.inl rfl) rfl (fun _ h=>h) (Ym rfl) ?_
     refine Uq rfl (.inl rfl) rfl (fun _ h=>h) (Ym rfl) ?_
     refine Uq rfl (.inl rfl) rfl (fun _ h=>h) (yl_nil rfl) ?_
     refine Uq rfl (.inl rfl) rfl (fun _ h=>h) (Yf fo53_1 rfl) ?_
     refine Uq rfl (.inl rfl) rfl (fun _ h=>h) (yl_ld 0 na51 rfl rfl (hg1)) ?_
     refine Uq rfl (.inl rfl) rfl (fun _ h=>h) (Ym rfl) ?_
     refine Uq rfl (.inl rfl) rfl (fun _ h=>h) (Yo (i:=0) es27 rfl rfl hxa (by omega)) ?_
     refine Uq rfl (.inl rfl) rfl (fun _ h=>h) (yl_ldX (v:=st x) 0 0 rfl rfl hxa (by omega) (by rw [hnx]; rfl) na9) ?_
     refine Uq rfl (.inl rfl) rfl (fun _ h=>h) (yl_glookv 0 rfl keyStr um51 us9 zr3 rfl rfl (hg2)) ?_
     rw [(tabZ_get _ _).1,show idxOf x (namesL l) 0=some j from hj,Option.getD_some]
     refine Uq rfl (.inl rfl) rfl (fun _ h=>h) (Yo es22 rfl rfl hay hjl) ?_
     refine Uq rfl (.inl rfl) rfl (fun _ h=>h) (Yf fo39_1 rfl) ?_
     refine Uq rfl (.inl rfl) rfl (fun _ h=>h) (yl_ld 1 na27 rfl rfl (hrowy 1 _ rfl)) ?_
     refine WU.nil (fun _ h=>h) ?_
     refine WS.e rfl ?_
     refine WL.appendX (f:=st) (rd:=rdStr) (xs:=g.nx) (ys:=mj.uses) 0 (fun _=>H) (.inl rfl) rfl el27 rfl rfl rfl (fun w hw=>⟨hw.vs H (by simp),hrdy.uses⟩) (fun _ _ _ _ h=>h 0 _ rfl) (fun _=>rfl) (by omega) (by omega) fun a68 c68=>?_
     refine Ln (Es ?_)
     refine WS.e rfl ?_
     refine V0 (Ya rfl) ?_
     refine Ln (Es ?_)
     refine WS.nil ?_
     refine Eb (Et (Cr ?_))
     refine V0 (Ym rfl) ?_
     refine WL.popX2 (f:=st) 0 (show g.nx++mj.uses=x::(r++mj.uses) by first | exact hnx | (rw [hnx]; rfl)) (.inl rfl) rfl es27 rfl rfl rfl rfl fun a42 c42=>?_
     refine V0 (Ya rfl) ?_
     refine Ln ?_
     exact Ea (⟨r++mj.uses,(a42,c42),(gput x (.int .i64 ((n+1:Nat):Int)) g.M g.k),(gclock x g.M g.k),g.p+1⟩:GNd) hmun hnext (sc rfl (sc rfl (sc rfl (sc rfl (sc rfl (sc rfl sn)))))) (fun _ h=>h)
    ·
     have hz:¬n=0:=fun h=>by subst h; cases hc3
     have hxy:x ∈ g.M.map (·.1):=Classical.byContradiction fun h=>hz (hn0.2 h)
     have hky:(gput x (.int .i64 ((n+1:Nat):Int)) g.M g.k).map (·.1)=g.M.map (·.1):=by rw [hput.2,if_neg hz]
     have hnext:NeedSt (gput x (.int .i64 ((n+1:Nat):Int)) g.M g.k) (gclock x g.M g.k) (g.p+1)∧NeedW l nm ((gput x (.int .i64 ((n+1:Nat):Int)) g.M g.k).map (·.1)) (r)∧g.p+1+(r).length+remN l ((gput x (.int .i64 ((n+1:Nat):Int)) g.M g.k).map (·.1))≤15:=by
       rw [hky]
       exact ⟨hput.1,hwk.old hxy,by omega⟩
     have hmun:(r).length+remN l ((gput x (.int .i64 ((n+1:Nat):Int)) g.M g.k).map (·.1))<g.nx.length+remN l (g.M.map (·.1)):=by
       rw [hky,hnx]
       omega
     refine Ck (Eb (Et (Cr ?_)))
     refine V0 (Ym rfl) ?_
     refine WL.popX2 (f:=st) 0 (show g.nx=x::r by first | exact hnx | (rw [hnx]; rfl)) (.inl rfl) rfl es27 rfl rfl rfl rfl fun a42 c42=>?_
     refine V0 (Ya rfl) ?_
     refine Ln ?_
     exact Ea (⟨r,(a42,c42),(gput x (.int .i64 ((n+1:Nat):Int)) g.M g.k),(gclock x g.M g.k),g.p+1⟩:GNd) hmun hnext (sc rfl (sc rfl (sc rfl (sc rfl (sc rfl (sc rfl sn)))))) (fun _ h=>h)
   ·
    have hnil:g.nx=[]:=by
      cases h:g.nx with
      | nil=>rfl
      | cons x r=>exact absurd (show (0:Nat)<g.nx.length by rw [h]; simp) (by simpa using hc2)
    rw [hnil] at hwk
    have hmok:=needs_map ho hb hst hwk
    refine Ce (Ex (Ex (Ebh (Et (Cs ?_)))))
    refine Cr ?_
    refine V0 (Ym rfl) ?_
    refine Lw (ι:=Nat) [] _ (.inl rfl) rfl en23 rfl rfl (fun kb=>.func (.func 34) #[] #[.pointer (some ⟨kb,0,none⟩)]) (fun kb=>[blk kb (.cells #[.map (some b31)] 51 (0,0))]) (fun _=>True) [] (by simp) (fun w hw=>(keys_any b31 w).mono fun e w' ⟨kb,h1,h2⟩=>⟨kb,h1,trivial,h2⟩) ?_
    intro kb _
    refine WL.callo (.inl rfl) rfl en22 rfl (fun w hw=>sortedKeys_any kb b31 g.k g.M w (hw.kn _ (mem_of_idx (i:=0) rfl)) (hw.kn _ (mem_of_idx (i:=2) rfl)) hmok.1 hmok.2) ?_
    intro v71 hv71
    refine WL.slcm 0 (m:=(msT (g.M.map (·.1))).length) (xs:=(msT (g.M.map (·.1))).flatMap strC) (e:=9) (size:=1) (v:=v71) rfl fun a71 c71 hv=>?_
    subst hv
    refine V0 (Ya rfl) ?_
    refine V0 (Ya rfl) ?_
    refine Ln (Et (Crt ?_))
    refine WE.ret2 rfl rfl rfl fun w' hw=>?_
    exact ⟨((a71,c71),msT (g.M.map (·.1)),0),rfl,hw.fr,hw.slT 0 rfl strC_len (fun _ _ _ _ h=>h),.inr (.inr ⟨he0,(by rw [hi0]; simp),_,rfl,(sortedT_ms hst.nd).1,fun s=>((sortedT_ms hst.nd).2 s).trans (hwk.fin s)⟩)⟩
end Go.Proofs.Ytinnlppbkhhoiaa
end
section
namespace Go.Proofs.Ytinnlppbkhhoiaa
open Go.Bw
set_option linter.unusedVariables false
set_option linter.unusedSimpArgs false
theorem sameInts_eqO (H1 H2:View) (a1 a2:Option Addr) (c1 c2:Nat) (l:List Nat) (w:World) (hH1:Le H1 w) (hH2:Le H2 w) (hm1:Sl rdIx 1 H1 a1 c1 l) (hm2:Sl rdIx 1 H2 a2 c2 l) :
   Calls Try.prog 11 #[.slice a1 l.length c1,.slice a2 l.length c2] w fun e w'=>e = .returned (.bool true)∧Ext w w':=by
 have hcap:=hm1.cap
 have hmax:=hm1.max
 refine enter Try.func11 rfl 26 rfl rfl ?_
 refine CWd (W':=Ws w [] [] [H1,H2]) (fun _ e=>by subst e; exact Ws.init (by simp [hH1,hH2])) ?_
 refine Cs (Cr ?_)
 refine V0 (Ya rfl) ?_
 refine Ln (Et (Cs (Cs (Cr ?_))))
 refine V0 (Ym rfl) ?_
 refine V0 (Yn es23 rfl) ?_
 refine V0 (Ym rfl) ?_
 refine V0 (Yn es23 rfl) ?_
 refine V0 (yl_ne rfl rfl) ?_
 refine Ln (Et ?_)
 refine Cc rfl (fun hc0=>?_) (fun hc0=>?_)
 ·
  exfalso
  simp at hc0
 ·
  refine Ck (Et (Cs (Cs (Cr ?_))))
  refine V0 (Ya rfl) ?_
  refine Ln (Et (Cb ?_))
  refine CW (ι:=Nat) (fun i=>[(5,.int .i64 (i:Int))]) [(0,_),(1,_)] (fun i=>i≤l.length) (fun i=>l.length-i) 0 (Nat.zero_le _) (sc rfl (sc rfl (sc rfl sn))) ?_
  intro i hi
  refine Cs (Cs (Cr ?_))
  refine V0 (Ym rfl) ?_
  refine V0 (Ym rfl) ?_
  refine V0 (Yn es23 rfl) ?_
  refine V0 (yl_lt rfl rfl) ?_
  refine Ln (Et ?_)
  refine Cc rfl (fun hc1=>?_) (fun hc1=>?_)
  ·
   have hlt:i<l.length:=by simpa using hc1
   obtain ⟨x,hx⟩:∃x,l[i]? = some x:=⟨_,List.getElem?_eq_getElem hlt⟩
   obtain ⟨pb,po,ha,hrow⟩:=hm1.elt i x hx
   obtain ⟨qb,qo,hqa,hrq⟩:=hm2.elt i x hx
   refine Ck (Et (Cs (Cb (Cs ?_))))
   refine WC.draws0 [(0,true),(1,true),(2,true),(3,true),(4,true),(5,true),(6,true),(7,true),(8,true)] mixed (by kernel_rfl) (fun _ _ _ d _ h=>by cases d<;>exact h) ?_
   refine Dq rfl (.inl rfl) rfl (fun _ h=>h) (Ym rfl) ?_
   refine Dq rfl (.inl rfl) rfl (fun _ h=>h) (Ym rfl) ?_
   refine Dq rfl (.inl rfl) rfl (fun _ h=>h) (Yo es23 rfl rfl ha (by omega)) ?_
   refine Dq rfl (.inl rfl) rfl (fun _ h=>h) (yl_ld 0 na3 rfl rfl (hrow 0 _ rfl)) ?_
   refine Dq rfl (.inl rfl) rfl (fun _ h=>h) (Ym rfl) ?_
   refine Dq rfl (.inl rfl) rfl (fun _ h=>h) (Ym rfl) ?_
   refine Dq rfl (.inl rfl) rfl (fun _ h=>h) (Yo es23 rfl rfl hqa (by omega)) ?_
   refine Dq rfl (.inl rfl) rfl (fun _ h=>h) (yl_ld 1 na3 rfl rfl (hrq 0 _ rfl)) ?_
   refine Dq rfl (.inl rfl) rfl (fun _ h=>h) (yl_ne rfl rfl) ?_
   refine WD.nil (fun _ h=>h) ?_
   refine Et ?_
   refine Cc rfl (fun hc2=>?_) (fun hc2=>?_)
   ·
    exfalso
    simp at hc2
   ·
    refine Ck (Eb (Et (Cr ?_)))
    refine V0 (Ym rfl) ?_
    refine V0 (Yi rfl rfl rfl (by omega)) ?_
    refine V0 (Ya rfl) ?_
    refine Ln ?_
    exact Ea (i+1) (by omega) (by omega) (sc rfl (sc rfl (sc rfl sn))) (fun _ h=>h)
  ·
   refine Ce (Ex (Ex (Ebh (Et (Cs ?_)))))
   refine Cr ?_
   refine V0 (Ya rfl) ?_
   refine Ln (Et (Crt ?_))
   refine WE.ret1 rfl rfl fun w' hw=>?_
   exact ⟨rfl,hw.fr⟩
theorem sameTexts_eqO (H1 H2:View) (a1 a2:Option Addr) (c1 c2:Nat) (l:List Tx) (w:World) (hH1:Le H1 w) (hH2:Le H2 w) (hm1:Sl rdStr 1 H1 a1 c1 l) (hm2:Sl rdStr 1 H2 a2 c2 l) :
   Calls Try.prog 12 #[.slice a1 l.length c1,.slice a2 l.length c2] w fun e w'=>e = .returned (.bool true)∧Ext w w':=by
 have hcap:=hm1.cap
 have hmax:=hm1.max
 refine enter Try.func12 rfl 26 rfl rfl ?_
 refine CWd (W':=Ws w [] [] [H1,H2]) (fun _ e=>by subst e; exact Ws.init (by simp [hH1,hH2])) ?_
 refine Cs (Cr ?_)
 refine V0 (Ya rfl) ?_
 refine Ln (Et (Cs (Cs (Cr ?_))))
 refine V0 (Ym rfl) ?_
 refine V0 (Yn es27 rfl) ?_
 refine V0 (Ym rfl) ?_
 refine V0 (Yn es27 rfl) ?_
 refine V0 (yl_ne rfl rfl) ?_
 refine Ln (Et ?_)
 refine Cc rfl (fun hc0=>?_) (fun hc0=>?_)
 ·
  exfalso
  simp at hc0
 ·
  refine Ck (Et (Cs (Cs (Cr ?_))))
  refine V0 (Ya rfl) ?_
  refine Ln (Et (Cb ?_))
  refine CW (ι:=Nat) (fun i=>[(5,.int .i64 (i:Int))]) [(0,_),(1,_)] (fun i=>i≤l.length) (fun i=>l.length-i) 0 (Nat.zero_le _) (sc rfl (sc rfl (sc rfl sn))) ?_
  intro i hi
  refine Cs (Cs (Cr ?_))
  refine V0 (Ym rfl) ?_
  refine V0 (Ym rfl) ?_
  refine V0 (Yn es27 rfl) ?_
  refine V0 (yl_lt rfl rfl) ?_
  refine Ln (Et ?_)
  refine Cc rfl (fun hc1=>?_) (fun hc1=>?_)
  ·
   have hlt:i<l.length:=by simpa using hc1
   obtain ⟨x,hx⟩:∃x,l[i]? = some x:=⟨_,List.getElem?_eq_getElem hlt⟩
   obtain ⟨pb,po,ha,hrow⟩:=hm1.elt i x hx
   obtain ⟨qb,qo,hqa,hrq⟩:=hm2.elt i x hx
   refine Ck (Et (Cs (Cb (Cs ?_))))
   refine WC.draws0 [(0,true),(1,true),(2,true),(3,true),(4,true),(5,true),(6,true),(7,true),(8,true)] mixed (by kernel_rfl) (fun _ _ _ d _ h=>by cases d<;>exact h) ?_
   refine Dq rfl (.inl rfl) rfl (fun _ h=>h) (Ym rfl) ?_
   refine Dq rfl (.inl rfl) rfl (fun _ h=>h) (Ym rfl) ?_
   refine Dq rfl (.inl rfl) rfl (fun _ h=>h) (Yo es27 rfl rfl ha (by omega)) ?_
   refine Dq rfl (.inl rfl) rfl (fun _ h=>h) (yl_ld 0 na9 rfl rfl (hrow 0 _ rfl)) ?_
   refine Dq rfl (.inl rfl) rfl (fun _ h=>h) (Ym rfl) ?_
   refine Dq rfl (.inl rfl) rfl (fun _ h=>h) (Ym rfl) ?_
   refine Dq rfl (.inl rfl) rfl (fun _ h=>h) (Yo es27 rfl rfl hqa (by omega)) ?_
   refine Dq rfl (.inl rfl) rfl (fun _ h=>h) (yl_ld 1 na9 rfl rfl (hrq 0 _ rfl)) ?_
   refine Dq rfl (.inl rfl) rfl (fun _ h=>h) (yl_nes rfl rfl) ?_
   refine WD.nil (fun _ h=>h) ?_
   refine Et ?_
   refine Cc rfl (fun hc2=>?_) (fun hc2=>?_)
   ·
    exfalso
    simp at hc2
   ·
    refine Ck (Eb (Et (Cr ?_)))
    refine V0 (Ym rfl) ?_
    refine V0 (Yi rfl rfl rfl (by omega)) ?_
    refine V0 (Ya rfl) ?_
    refine Ln ?_
    exact Ea (i+1) (by omega) (by omega) (sc rfl (sc rfl (sc rfl sn))) (fun _ h=>h)
  ·
   refine Ce (Ex (Ex (Ebh (Et (Cs ?_)))))
   refine Cr ?_
   refine V0 (Ya rfl) ?_
   refine Ln (Et (Crt ?_))
   refine WE.ret1 rfl rfl fun w' hw=>?_
   exact ⟨rfl,hw.fr⟩
end Go.Proofs.Ytinnlppbkhhoiaa
end
section
namespace Go.Proofs.Ytinnlppbkhhoiaa
open Go.Bw
set_option linter.unusedVariables false
set_option linter.unusedSimpArgs false
abbrev UX:=Tx×List Tx×SP
def UX.mod (x:UX):TMod:=⟨x.1,x.2.1,[],[],[]⟩
def UX.cells (x:UX):List Value:=[st x.1,.slice x.2.2.1 x.2.1.length x.2.2.2,.slice none 0 0,.slice none 0 0,.slice none 0 0]
theorem UX.cells_len (x:UX):x.cells.length=5:=rfl
def rdUX (H:View) (b o:Nat) (x:UX):Prop:=RdC H b o x.cells
def UXs (H:View) (l:List UX):Prop:=∀x ∈ l,Sl rdStr 1 H x.2.2.1 x.2.2.2 x.2.1
theorem UXs.nil {H:View}:UXs H []:=fun x h=>by simp at h
theorem UXs.cons {H:View} {n:Tx} {u:List Tx} {a:Option Addr} {c:Nat} {r:List UX} (h:Sl rdStr 1 H a c u) (t:UXs H r):UXs H ((n,u,(a,c))::r):=fun x hx=>by
 rcases List.mem_cons.1 hx with e | hx
 · subst e; exact h
 · exact t x hx
theorem slM_of {K H:View} {a:Option Addr} {c:Nat} {l:List UX} (h:Sl rdUX 5 K a c l) (hv:VLe K H) (hu:UXs H l):Sl (rdMod 7 6) 5 H a c (l.map UX.mod):=by
 refine ⟨by rw [List.length_map]; exact h.cap,h.max,h.spot,fun i x hx=>?_⟩
 rw [List.getElem?_map] at hx
 obtain ⟨y,hy,rfl⟩:=Option.map_eq_some_iff.1 hx
 obtain ⟨b,o,ha,hr⟩:=h.elt i y hy
 exact ⟨b,o,ha,⟨y.2.2.1,y.2.2.2,none,0,none,0,none,0⟩,RdC.mono hv hr,hu y (List.mem_of_getElem? hy),Sl.nil,Sl.nil,Sl.nil⟩
def threeL:List TMod:=[⟨[99],[[98],[97]],[],[],[]⟩,⟨[98],[[97]],[],[],[]⟩,⟨[97],[],[],[],[]⟩]
def twoL:List TMod:=[⟨[97],[[98]],[],[],[]⟩,⟨[98],[[97]],[],[],[]⟩]
theorem three_E:orderE threeL=0:=by decide +kernel
theorem two_E:orderE twoL=0:=by decide +kernel
theorem three_w:∀m ∈ threeL,wM m≤109951162777:=by decide +kernel
theorem two_w:∀m ∈ twoL,wM m≤109951162777:=by decide +kernel
theorem three_sort:SortR threeL ([2,1,0],0):=by
 refine .inr ⟨three_E,[2,1,0],⟨?_,.inl rfl⟩,rfl⟩
 have h1:Greedy threeL ([]++[2]):=.snoc .nil ⟨by decide,by decide +kernel,by decide +kernel⟩
 have h2:Greedy threeL ([2]++[1]):=.snoc h1 ⟨by decide,by decide +kernel,by decide +kernel⟩
 have h3:Greedy threeL ([2,1]++[0]):=.snoc h2 ⟨by decide,by decide +kernel,by decide +kernel⟩
 exact h3
theorem two_sort:SortR twoL ([],9):=.inr ⟨two_E,[],⟨.nil,.inr (by show ∀i,i<twoL.length→readyB twoL [] i=false; decide +kernel)⟩,rfl⟩
theorem three_need:NeedR threeL [99] ([[97],[98]],0):=by
 refine .inr (.inr ⟨three_E,by decide +kernel,_,rfl,by unfold SortedT; decide +kernel,fun s=>?_⟩)
 refine ClosedN.iff (S:=fun s=>s ∈ [[97],[98]]) ⟨by decide +kernel,fun b hb=>?_,fun s hs=>?_⟩ s
 · rcases List.mem_cons.1 hb with e | hb
   · subst e; decide +kernel
   · rw [List.mem_singleton] at hb; subst hb; decide +kernel
 · refine .base ?_
   rcases List.mem_cons.1 hs with e | hs
   · subst e; decide +kernel
   · rw [List.mem_singleton] at hs; subst hs; decide +kernel
theorem pl39:placesP Try.prog 39=some [(0,1),(1,1),(2,1),(3,1),(4,1)]:=by kernel_rfl
theorem el22:EltOk Try.prog 22 39 (.agg #[st [],.slice none 0 0,.slice none 0 0,.slice none 0 0,.slice none 0 0]) 5 112:=eltOk_of (by kernel_rfl)
theorem en26:Enters Try.prog 26:=enters_of Try.func26 (by kernel_rfl) rfl
theorem en6:Enters Try.prog 6:=enters_of Try.func6 (by kernel_rfl) rfl
theorem en7:Enters Try.prog 7:=enters_of Try.func7 (by kernel_rfl) rfl
theorem en11:Enters Try.prog 11:=enters_of Try.func11 (by kernel_rfl) rfl
theorem en12:Enters Try.prog 12:=enters_of Try.func12 (by kernel_rfl) rfl
theorem three_any (w:World) :
   Calls Try.prog 26 #[] w fun e w'=>∃r:SP,e = .returned (.slice r.1 threeL.length r.2)∧Ext w w'∧Sl (rdMod 7 6) 5 (nv w w') r.1 r.2 threeL:=by
 refine enter Try.func26 rfl 7 rfl rfl ?_
 refine CWd (W':=Ws w [] [] []) (fun _ e=>by subst e; exact Ws.init (by simp)) ?_
 refine Cs (Cr ?_)
 refine V0 (Ya rfl) ?_
 refine Ln (Et (Cs (Cr ?_)))
 refine Lb (.inl rfl) rfl el27 rfl rfl rfl rfl fun b1=>?_
 refine LN (rd:=rdStr) (f:=strC) (m:=2) 0 [[98],[97]] rfl rfl (fun _ hk=>by cases hk) strC_len (fun _ _ _ _ h=>h) (show 2≤2 by decide) (by decide) fun H1 fH1 hH1=>?_
 refine V0 (Yb zr39 pl39 rfl rfl) ?_
 refine Lb (.inl rfl) rfl el27 rfl rfl rfl rfl fun b3=>?_
 refine LN (rd:=rdStr) (f:=strC) (m:=1) 0 [[97]] rfl rfl (fun _ hk=>by cases hk) strC_len (fun _ _ _ _ h=>h) (show 1≤1 by decide) (by decide) fun H3 fH3 hH3=>?_
 refine V0 (Yb zr39 pl39 rfl rfl) ?_
 refine V0 (Yb zr39 pl39 rfl rfl) ?_
 refine Lb (.inl rfl) rfl el22 rfl rfl rfl rfl fun b6=>?_
 refine LN (rd:=rdUX) (f:=UX.cells) (m:=3) 0 [(([99],[[98],[97]],((some ⟨b1,0,none⟩),2)):UX),(([98],[[97]],((some ⟨b3,0,none⟩),1)):UX),(([97],[],(none,0)):UX)] rfl rfl (fun _ hk=>by cases hk) UX.cells_len (fun _ _ _ _ h=>h) (show 3≤3 by decide) (by decide) fun H6 fH6 hH6=>?_
 refine V0 (Ya rfl) ?_
 refine Ln (Et (Crt ?_))
 refine WE.ret1 rfl rfl fun w' hw=>?_
 exact ⟨(some ⟨b6,0,none⟩,3),rfl,hw.fr,(slM_of hH6 (nv_vs hw (by simp) fH6) (UXs.cons (slStr_mv hH1 (nv_vs hw (by simp) fH1)) (UXs.cons (slStr_mv hH3 (nv_vs hw (by simp) fH3)) (UXs.cons Sl.nil UXs.nil))))⟩
theorem orderBegun_any (w:World) :
   Calls Try.prog 10 #[] w fun e w'=>e = .returned (.bool true)∧Ext w w':=by
 refine enter Try.func10 rfl 46 rfl rfl ?_
 refine CWd (W':=Ws w [] [] []) (fun _ e=>by subst e; exact Ws.init (by simp)) ?_
 refine Cs (Cr ?_)
 refine V0 (Ya rfl) ?_
 refine Ln (Et (Cs (Cr ?_)))
 refine Ld (.inl rfl) rfl en26 rfl (fun r:SP=>.slice r.1 threeL.length r.2) (fun H r=>Sl (rdMod 7 6) 5 H r.1 r.2 threeL) (fun w hw=>three_any w) ?_
 intro F8 r8 hf8 h8
 refine Ld (.inl rfl) rfl en6 rfl (fun r:SP×List Nat×Int=>.tuple #[.slice r.1.1 r.2.1.length r.1.2,.int .i64 r.2.2]) (fun F r=>Sl rdIx 1 F r.1.1 r.1.2 r.2.1∧SortR threeL r.2) (fun w hw=>sort_any F8 7 6 r8.1 r8.2 threeL w (hw.vs _ (by simp)) h8 three_w) ?_
 intro F9 r9 hf9 h9
 obtain ⟨s9,q9⟩:=r9
 obtain ⟨hs9,hq9⟩:=h9
 have hx9:=sortR_eq hq9 three_sort
 dsimp only at hx9
 subst hx9
 refine V0 (Ym rfl) ?_
 refine V0 (Yx rfl rfl) ?_
 refine V0 (Yx rfl rfl) ?_
 refine V0 (Ya rfl) ?_
 refine V0 (Ya rfl) ?_
 refine Ln (Et (Cs (Cr ?_)))
 refine Ld (.inl rfl) rfl en26 rfl (fun r:SP=>.slice r.1 threeL.length r.2) (fun H r=>Sl (rdMod 7 6) 5 H r.1 r.2 threeL) (fun w hw=>three_any w) ?_
 intro F13 r13 hf13 h13
 refine Ld (.inl rfl) rfl en7 rfl (fun r:SP×List Tx×Int=>.tuple #[.slice r.1.1 r.2.1.length r.1.2,.int .i64 r.2.2]) (fun F r=>Sl rdStr 1 F r.1.1 r.1.2 r.2.1∧NeedR threeL [99] r.2) (fun w hw=>needs_any F13 7 6 r13.1 r13.2 threeL [99] w (hw.vs _ (by simp)) h13 three_w) ?_
 intro F14 r14 hf14 h14
 obtain ⟨s14,q14⟩:=r14
 obtain ⟨hs14,hq14⟩:=h14
 have hx14:=needR_eq hq14 three_need
 dsimp only at hx14
 subst hx14
 refine V0 (Ym rfl) ?_
 refine V0 (Yx rfl rfl) ?_
 refine V0 (Yx rfl rfl) ?_
 refine V0 (Ya rfl) ?_
 refine V0 (Ya rfl) ?_
 refine Ln (Et (Cs (Cr ?_)))
 refine Lb (.inl rfl) rfl el27 rfl rfl rfl rfl fun b18=>?_
 refine LN (rd:=rdStr) (f:=strC) (m:=1) 0 [[98]] rfl rfl (fun _ hk=>by cases hk) strC_len (fun _ _ _ _ h=>h) (show 1≤1 by decide) (by decide) fun H18 fH18 hH18=>?_
 refine V0 (Yb zr39 pl39 rfl rfl) ?_
 refine Lb (.inl rfl) rfl el27 rfl rfl rfl rfl fun b20=>?_
 refine LN (rd:=rdStr) (f:=strC) (m:=1) 0 [[97]] rfl rfl (fun _ hk=>by cases hk) strC_len (fun _ _ _ _ h=>h) (show 1≤1 by decide) (by decide) fun H20 fH20 hH20=>?_
 refine V0 (Yb zr39 pl39 rfl rfl) ?_
 refine Lb (.inl rfl) rfl el22 rfl rfl rfl rfl fun b22=>?_
 refine LN (rd:=rdUX) (f:=UX.cells) (m:=2) 0 [(([97],[[98]],((some ⟨b18,0,none⟩),1)):UX),(([98],[[97]],((some ⟨b20,0,none⟩),1)):UX)] rfl rfl (fun _ hk=>by cases hk) UX.cells_len (fun _ _ _ _ h=>h) (show 2≤2 by decide) (by decide) fun H22 fH22 hH22=>?_
 have hM22:∀w0 w,Ws w0 [] [] [H22,H20,H18,F14,F13,F9,F8] w→Sl (rdMod 7 6) 5 (hv w) (some ⟨b22,0,none⟩) 2 twoL:=fun w0 w hw=>(slM_of hH22 (hv_of (hw.vs _ (by simp))) (UXs.cons (slStr_mv hH18 (hv_of (hw.vs _ (by simp)))) (UXs.cons (slStr_mv hH20 (hv_of (hw.vs _ (by simp)))) UXs.nil)))
 refine Ld (.inl rfl) rfl en6 rfl (fun r:SP×List Nat×Int=>.tuple #[.slice r.1.1 r.2.1.length r.1.2,.int .i64 r.2.2]) (fun F r=>Sl rdIx 1 F r.1.1 r.1.2 r.2.1∧SortR twoL r.2) (fun w hw=>sort_any (hv w) 7 6 (some ⟨b22,0,none⟩) 2 twoL w (hv_le w) (hM22 _ w hw) two_w) ?_
 intro F23 r23 hf23 h23
 obtain ⟨s23,q23⟩:=r23
 obtain ⟨hs23,hq23⟩:=h23
 have hx23:=sortR_eq hq23 two_sort
 dsimp only at hx23
 subst hx23
 refine V0 (Ym rfl) ?_
 refine V0 (Yx rfl rfl) ?_
 refine V0 (Yx rfl rfl) ?_
 refine V0 (Ya rfl) ?_
 refine V0 (Ya rfl) ?_
 refine Ln (Et (Cs (Cr ?_)))
 refine V0 (Ym rfl) ?_
 refine V0 (yl_eqiY rfl rfl rfl) ?_
 refine V0 (Ym rfl) ?_
 apply WL.and 2 (x:=true) rfl rfl rfl rfl (.inl rfl) rfl rfl rfl rfl rfl
 ·
  intro hg0
  refine Lv (.g rfl rfl rfl) rfl (Ym rfl) ?_
  refine Lv (.g rfl rfl rfl) rfl (yl_eqiY rfl rfl rfl) ?_
  exact Gt 2 rfl rfl rfl
 refine V0 (Ym rfl) ?_
 apply WL.and 2 (x:=true) rfl rfl rfl rfl (.inl rfl) rfl rfl rfl rfl rfl
 ·
  intro hg1
  refine Lv (.g rfl rfl rfl) rfl (Ym rfl) ?_
  refine Lv (.g rfl rfl rfl) rfl (yl_eqiY rfl rfl rfl) ?_
  exact Gt 2 rfl rfl rfl
 refine V0 (Ym rfl) ?_
 apply WL.and 3 (x:=true) rfl rfl rfl rfl (.inl rfl) rfl rfl rfl rfl rfl
 ·
  intro hg2
  refine Lv (.g rfl rfl rfl) rfl (Ym rfl) ?_
  refine Lb (.g rfl rfl rfl) rfl el23 rfl rfl rfl rfl fun b38=>?_
  refine WL.blksl (rd:=rdIx) (f:=ixC) (k:=1) (m:=3) 0 [2,1,0] rfl rfl ixC_len (fun _ _ _ _ h=>h) (by decide) (by decide) fun H38 hH38=>?_
  refine Lp (.g rfl rfl rfl) rfl en11 rfl (fun w hw=>sameInts_eqO F9 H38 s9.1 (some ⟨b38,0,none⟩) s9.2 3 [2,1,0] w (hw.vs _ (by simp)) (hw.vs _ (by simp)) hs9 hH38) ?_
  refine WL.wk ?_ (Gt 3 rfl rfl rfl)
  exact fun _ h=>Ws.drops (h) (fun _ hm=>List.mem_append_right [_] hm)
 refine V0 (Ym rfl) ?_
 apply WL.and 3 (x:=true) rfl rfl rfl rfl (.inl rfl) rfl rfl rfl rfl rfl
 ·
  intro hg3
  refine Lv (.g rfl rfl rfl) rfl (Ym rfl) ?_
  refine Lb (.g rfl rfl rfl) rfl el27 rfl rfl rfl rfl fun b43=>?_
  refine WL.blksl (rd:=rdStr) (f:=strC) (k:=1) (m:=2) 0 [[97],[98]] rfl rfl strC_len (fun _ _ _ _ h=>h) (by decide) (by decide) fun H43 hH43=>?_
  refine Lp (.g rfl rfl rfl) rfl en12 rfl (fun w hw=>sameTexts_eqO F14 H43 s14.1 (some ⟨b43,0,none⟩) s14.2 2 [[97],[98]] w (hw.vs _ (by simp)) (hw.vs _ (by simp)) hs14 hH43) ?_
  refine WL.wk ?_ (Gt 3 rfl rfl rfl)
  exact fun _ h=>Ws.drops (h) (fun _ hm=>List.mem_append_right [_] hm)
 refine V0 (Ya rfl) ?_
 refine Ln (Et (Crt ?_))
 refine WE.ret1 rfl rfl fun w' hw=>?_
 exact ⟨rfl,hw.fr⟩
end Go.Proofs.Ytinnlppbkhhoiaa
end
section
namespace Go.Proofs.Ytinnlppbkhhoiaa
open Go.Bw
set_option linter.unusedVariables false
set_option linter.unusedSimpArgs false
theorem en10:Enters Try.prog 10:=enters_of Try.func10 (by kernel_rfl) rfl
end Go.Proofs.Ytinnlppbkhhoiaa
end
