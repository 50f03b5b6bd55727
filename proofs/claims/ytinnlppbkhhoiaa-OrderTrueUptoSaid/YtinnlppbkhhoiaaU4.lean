/- Each module stands behind all that it needs, and the order does not hang on how the modules were told, where what is handed in has a bulk of at most 1048576 (the second form). -/
import Derived.Test.YtinnlppbkhhoiaaU3
set_option linter.unusedVariables false
set_option linter.unusedSimpArgs false
section
namespace Go.Proofs.Ytinnlppbkhhoiaa
open Go.Bw
set_option linter.unusedVariables false
set_option linter.unusedSimpArgs false
open Go.ChangeShapes Go.WideShapes Go.ChangeAt Go.RowKit Go.Joins Go.Deep
set_option maxRecDepth 100000 in
theorem orderTrue_lifted (os:Os) (started:os.Started) (H:Type) (enc:TypeId×Value→H) (F:Stop.Interp) :
   ReturnsInHanded {} Try.checked os 4 .any ((Rows.OpenSpec.upto Rows.orderTrueSpec).pre6 enc Try.prog Try.f4 Rows.orderTrueUptoRow.domain false) (((Rows.OpenSpec.upto Rows.orderTrueSpec).at F).post enc Try.prog Try.f4 false true false false):=by
 refine returnsInHanded_of_cond (C:=Try.checked) (s:=Rows.OpenSpec.upto Rows.orderTrueSpec) (k:=Rows.uptoSmall) rfl own started (by kernel_rfl) Try.func4
   (OpenSpec.witness (enc:=enc) (C:=Try.checked) (s:=Rows.OpenSpec.upto Rows.orderTrueSpec) (k:=Rows.uptoSmall) rfl false ⟨#[],#[.slice none 0 0,.int .i64 0,.int .i64 0],[]⟩ 8 (by kernel_rfl) (by kernel_rfl) (by kernel_rfl)
     (x:=([.nil,.lit (.int .i64 0),.lit (.int .i64 0)],[],[])) (by kernel_rfl) rfl (by kernel_rfl)) ?_
 intro W base args ds gs before hval0 hW _ hk _
 have hval:∀(j:Nat) t v,Try.f4.params[j]? = some t→args[j]? = some v→Value.okWide Try.prog W .any base t v:=hval0
 have hW':=hW
 obtain ⟨p,q,hA0,hV,rfl,hfz,hnd⟩:=hW
 have hA:DataW.TrodAll enc Try.prog W 0 (fun _=>true) true Try.f4.params.toList args.toList ds p:=hA0
 rw [Try.params4] at hA hval
 obtain ⟨v0,vs0,d0,ds0,p0,q0,hargs,rfl,rfl,h0,r0⟩:=trodAll_cons hA
 obtain ⟨v1,vs1,d1,ds1,p1,q1,rfl,rfl,rfl,h1,r1⟩:=trodAll_cons r0
 obtain ⟨v2,vs2,d2,ds2,p2,q2,rfl,rfl,rfl,h2,r2⟩:=trodAll_cons r1
 obtain ⟨rfl,rfl,rfl⟩:=trodAll_nil r2
 obtain rfl:args = #[v0,v1,v2]:=by cases args; simp_all
 obtain ⟨rfl,rfl⟩:=trodVars_none hV
 have k0:=h0
 have lt0:∀x ∈ p0,x.block<W.heap.size:=by obtain ⟨m,hm⟩:=k0; exact DataW.trod_lt m _ _ _ hm
 have k1:=h1
 have lt1:∀x ∈ p1,x.block<W.heap.size:=by obtain ⟨m,hm⟩:=k1; exact DataW.trod_lt m _ _ _ hm
 have k2:=h2
 have lt2:∀x ∈ p2,x.block<W.heap.size:=by obtain ⟨m,hm⟩:=k2; exact DataW.trod_lt m _ _ _ hm
 obtain ⟨_,_,_,_,_,hT0⟩:=modTy
 obtain ⟨a0,c0,n0,l0,rfl,hm0,hb0⟩:=open_mods (bulkOf H) hT0 Try.underlying22 (fun _=>rfl) (hval 0 22 v0 rfl rfl) h0
 have hm0:Sl (rdMod n0 n0) 5 (hv W) a0 c0 l0:=hm0.imp fun _ _ _ h=>h
 have hb0:wMs l0≤Rows.uptoBulk d0:=hb0
 obtain ⟨z1,rfl,hz1⟩:=Go.Bw.open_int Try.underlying3 (hval 1 3 v1 rfl rfl) h1
 obtain ⟨z2,rfl,hz2⟩:=Go.Bw.open_int Try.underlying3 (hval 2 3 v2 rfl rfl) h2
 clear hA0 hval0
 have hbulk:Rows.uptoBulkAll [d0,d1,d2]≤1048576:=of_decide_eq_true hk
 simp only [Rows.uptoBulkAll] at hbulk
 have hw0:∀m ∈ l0,wM m≤109951162777:=fun m hm=>by
   have:=wMs_mem hm
   omega
 refine (orderTrue_any (hv W) n0 n0 a0 c0 l0 z1 hz1 z2 hz2 W (hv_le W) hm0 hw0).mono fun e W' ⟨he,hx⟩=>?_
 subst he
 have bel:=hx.below
 exact ⟨_,rfl,_,_,_,[],_,[],hW',trodAll_mk1 (shut_bool Try.underlying4 _),(trodAll_cons_mk (Below.trod laidOut (by kernel_rfl) (of_decide_eq_true (by kernel_rfl)) k0 bel lt0) (trodAll_cons_mk (Below.trod laidOut (by kernel_rfl) (of_decide_eq_true (by kernel_rfl)) k1 bel lt1) (trodAll_cons_mk (Below.trod laidOut (by kernel_rfl) (of_decide_eq_true (by kernel_rfl)) k2 bel lt2) trodAll_mk0))),rfl,bel.frame _,fun h=>by cases h⟩
theorem orderTrue_proved:Rows.OrderTrueUptoSaid:=
 OpenClaim.holds_of_cond 4 Try.f4 rfl rfl rfl rfl rfl rfl rfl ⟨rfl,rfl,rfl,rfl,rfl⟩ rfl rfl rfl rfl rfl (by kernel_rfl) Try.func4 (by kernel_rfl)
   (of_decide_eq_true (by kernel_rfl)) (by unfold Func.isWrapper; first | (rw [if_pos (by decide +kernel)]; kernel_rfl) | (rw [if_neg (by decide +kernel)]; exact ⟨rfl,rfl⟩))
   (fun os started H enc _ F=>orderTrue_lifted os started H enc F)
end Go.Proofs.Ytinnlppbkhhoiaa
end
