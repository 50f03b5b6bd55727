/- ObjWrites: Write and Read of objects answer just what the document says, whatever they are handed. -/
import Derived.Lib.AtoiErrMem
import Derived.Test.YtplfmnkmlaolpaaGreatDoorRows
import Derived.Test.YtplfmnkmlaolpaaGreatDoorW2
set_option linter.unusedVariables false
set_option linter.unusedSimpArgs false
section
namespace Go.Proofs.YtplfmnkmlaolpaaGreatDoor
open Go.Bw
open Go.Proofs
def within (n low high:Int):Bool:=decide (low≤n)&&decide (n≤high)
theorem within_nat (n:Nat):within (n:Int) 1 8=(decide (1≤n)&&decide (n≤8)):=by
 rw [Bool.eq_iff_iff]
 simp [within]
 omega
theorem lex_cond (n:Nat) (u:Int):(((((n:Int)==0)||decide (8<(n:Int)))||decide (u<97))||decide (122<u)) = !((decide (1≤n)&&decide (n≤8))&&letterB u):=by
 rw [Bool.eq_iff_iff]
 simp [letterB]
 omega
theorem at0 {s:List UInt8} {i:Nat} (h:i<s.length):s[i]? = some (s[i]?.getD 0):=by rw [List.getElem?_eq_getElem h]; rfl
theorem all_no {s:List UInt8} {p:UInt8→Bool} {i:Nat} (h:i<s.length) (hp:p (s[i]?.getD 0)=false):s.all p=false:=by
 rw [List.all_eq_false]
 exact ⟨_,List.mem_of_getElem? (at0 h),by simp [hp]⟩
theorem all_yes {s:List UInt8} {p:UInt8→Bool} (h:∀i,i<s.length→p (s[i]?.getD 0)=true):s.all p=true:=by
 rw [List.all_eq_true]
 intro x hx
 obtain ⟨i,hi⟩:=List.getElem?_of_mem hx
 have:=h i (List.getElem?_eq_some_iff.1 hi).1
 rw [hi] at this
 exact this
theorem indexByte_ge0 (u:UInt8):∀s:List UInt8,decide (0≤Lib.indexByte s u)=s.contains u
 | []=>rfl
 | b::l=>by
   have ih:=indexByte_ge0 u l
   have hge:=Lib.indexByte_ge l u
   unfold Lib.indexByte
   by_cases hb:b=u
   · subst hb; simp
   · have h1:(b==u)=false:=by simpa using hb
     have h2:(u==b)=false:=by simpa using fun h=>hb h.symm
     rw [if_neg (by simp [h1]),List.contains_cons,h2,Bool.false_or,←ih]
     split
     · rename_i h; simp at h; simp [h]
     · rename_i h; simp at h
       rw [Bool.eq_iff_iff]; simp; omega
theorem toNat_inj {u v:UInt8} (h:(u.toNat:Int)=(v.toNat:Int)):u=v:=UInt8.toNat_inj.1 (by omega)
theorem us9:Tryz.prog.underlying 9=some .string:=by kernel_rfl
theorem en31:Enters Tryz.prog 31:=enters_of Tryz.func31 (by kernel_rfl) rfl
theorem en73:Enters Tryz.prog 73:=enters_of Tryz.func73 (by kernel_rfl) rfl
theorem en74:Enters Tryz.prog 74:=enters_of Tryz.func74 (by kernel_rfl) rfl
theorem en72:Enters Tryz.prog 72:=enters_of Tryz.func72 (by kernel_rfl) rfl
theorem en168:Enters Tryz.prog 168:=enters_of Tryz.func168 (by kernel_rfl) rfl
theorem within_any (n low high:Int) (w:World) :
   Calls Tryz.prog 31 #[.int .i64 n,.int .i64 low,.int .i64 high] w fun e w'=>e = .returned (.bool (within n low high))∧Ext w w':=by
 refine enter Tryz.func31 O 15 O O ?_
 refine CE (Vs:=[]) (Ws.init (by simp)) ?_
 refine Cs (Cr (V0 (Ya O) (Ln (Et (Cs (Cr (V0 (Ym O) (V0 (Ym O) (V0 (yl_ge O O) ?_)))))))))
 refine V0 (Ym O) ?_
 apply La 3 O O O O Y O O O O O
 ·
  intro hg0
  refine Vg (Ym O) (Vg (Ym O) (Vg (yl_le O O) ?_))
  exact Gt 3 O O O
 refine V0 (Ya O) (Ln (Et (Crt ?_)))
 refine R1 O O fun w' hw=>?_
 exact ⟨O,hw.fr⟩
theorem letter_any (u:Int) (w:World) :
   Calls Tryz.prog 73 #[.int .u8 u] w fun e w'=>e = .returned (.bool (letterB u))∧Ext w w':=by
 refine enter Tryz.func73 O 9 O O ?_
 refine CE (Vs:=[]) (Ws.init (by simp)) ?_
 refine Cs (Cr (V0 (Ya O) (Ln (Et (Cs (Cr (V0 (Ym O) (V0 (yl_ge O O) (V0 (Ym O) ?_)))))))))
 apply La 2 O O O O Y O O O O O
 ·
  intro hg0
  refine Vg (Ym O) (Vg (yl_le O O) ?_)
  exact Gt 2 O O O
 refine V0 (Ya O) (Ln (Et (Crt ?_)))
 refine R1 O O fun w' hw=>?_
 exact ⟨O,hw.fr⟩
theorem digit_any (u:Int) (w:World) :
   Calls Tryz.prog 74 #[.int .u8 u] w fun e w'=>e = .returned (.bool (digitB u))∧Ext w w':=by
 refine enter Tryz.func74 O 9 O O ?_
 refine CE (Vs:=[]) (Ws.init (by simp)) ?_
 refine Cs (Cr (V0 (Ya O) (Ln (Et (Cs (Cr (V0 (Ym O) (V0 (yl_ge O O) (V0 (Ym O) ?_)))))))))
 apply La 2 O O O O Y O O O O O
 ·
  intro hg0
  refine Vg (Ym O) (Vg (yl_le O O) ?_)
  exact Gt 2 O O O
 refine V0 (Ya O) (Ln (Et (Crt ?_)))
 refine R1 O O fun w' hw=>?_
 exact ⟨O,hw.fr⟩
theorem plain_char (u:Int) (w:World) :
   Calls Tryz.prog 72 #[.int .u8 u] w fun e w'=>e = .returned (.bool (letterB u||digitB u))∧Ext w w':=by
 refine enter Tryz.func72 O 17 O O ?_
 refine CE (Vs:=[]) (Ws.init (by simp)) ?_
 refine Cs (Cr (V0 (Ya O) (Ln (Et (Cs (Cr (V0 (Ym O) (V0 (yl_ge O O) (V0 (Ym O) ?_)))))))))
 apply La 2 O O O O Y O O O O O
 ·
  intro hg0
  refine Vg (Ym O) (Vg (yl_le O O) ?_)
  exact Gt 2 O O O
 refine V0 (Ym O) ?_
 apply Lo 6 O O O O Y O O O O O
 ·
  intro hg1
  refine Vg (Ym O) (Vg (yl_ge O O) (Vg (Ym O) ?_))
  apply La 2 O O O O (.g O O O) O O O O O
  ·
   intro hg2
   refine Vg (Ym O) (Vg (yl_le O O) ?_)
   exact Gt 2 O O O
  exact Gt 4 O O O
 refine V0 (Ya O) (Ln (Et (Crt ?_)))
 refine R1 O O fun w' hw=>?_
 exact ⟨O,hw.fr⟩
theorem isName_any (s:List UInt8) (w:World) :
   Calls Tryz.prog 32 #[st s] w fun e w'=>e = .returned (.bool (nameB s))∧Ext w w':=by
 refine enter Tryz.func32 O 32 O O ?_
 refine CE (Vs:=[]) (Ws.init (by simp)) ?_
 refine Cs (Cr (V0 (Ya O) (Ln (Et (Cs (Cs (Cr (V0 (Ym O) (V0 (yl_lens us9 O) ?_)))))))))
 refine Lp Y O en31 O (fun w hw=>within_any _ _ _ w) ?_
 refine V0 (yl_not O) (V0 (Ym O) ?_)
 apply Lo 4 O O O O Y O O O O O
 ·
  intro hg0
  have h0:0<s.length:=by simp [within] at hg0; omega
  have hu0:=at0 h0
  refine Vg (Ym O) (Vg (yl_idxk us9 O O hu0) ?_)
  refine Lp (.g O O O) O en73 O (fun w hw=>letter_any _ w) ?_
  refine Vg (yl_not O) ?_
  exact Gt 4 O O O
 refine Ln (Et ?_)
 refine Cc O (fun hc0=>?_) (fun hc0=>?_)
 ·
  have hn:nameB s=false:=by
    unfold nameB
    rw [within_nat] at hc0
    revert hc0
    generalize (decide (1≤s.length)&&decide (s.length≤8))=A
    generalize letterB ((s[0]?.getD 0).toNat)=B
    cases A<;>cases B<;>simp
  refine Cs (Cr (V0 (Ya O) (Ln (Et (Crt (Er ?_))))))
  refine R1 O O fun w' hw=>?_
  exact ⟨by rw [hn],hw.fr⟩
 have hok:((decide (1≤s.length)&&decide (s.length≤8))&&letterB ((s[0]?.getD 0).toNat))=true:=by
   rw [within_nat] at hc0
   revert hc0
   generalize (decide (1≤s.length)&&decide (s.length≤8))=A
   generalize letterB ((s[0]?.getD 0).toNat)=B
   cases A<;>cases B<;>simp
 have h8:s.length≤8:=by simp at hok; omega
 refine Ck (Et (Cs (Cs (Cr (V0 (Ya O) (Ln (Et (Cb ?_))))))))
 refine CW (ι:=Nat) (fun i=>[(3,.int .i64 (i:Int))]) [(0,_)] (fun i=>i≤s.length∧∀j,j<i→charB (s[j]?.getD 0)=true) (fun i=>s.length-i) 0 ⟨Nat.zero_le _,by simp⟩ (sc O (sc O sn)) ?_
 intro i ⟨hi,hall⟩
 refine Cs (Cs (Cr (V0 (Ym O) (V0 (Ym O) (V0 (yl_lens us9 O) (V0 (yl_lt O O) (Ln (Et ?_))))))))
 refine Cc O (fun hc1=>?_) (fun hc1=>?_)
 ·
  have hlt:i<s.length:=by simpa using hc1
  have hui:=at0 hlt
  refine Ck (Et (Cs (Cb (Cs (Cr (V0 (Ym O) (V0 (Ym O) (V0 (yl_idxk us9 O O hui) ?_))))))))
  refine Lp Y O en73 O (fun w hw=>letter_any _ w) ?_
  refine V0 (yl_not O) (V0 (Ym O) ?_)
  apply La 5 O O O O Y O O O O O
  ·
   intro hg1
   refine Vg (Ym O) (Vg (Ym O) (Vg (yl_idxk us9 O O hui) ?_))
   refine Lp (.g O O O) O en74 O (fun w hw=>digit_any _ w) ?_
   refine Vg (yl_not O) ?_
   exact Gt 5 O O O
  refine Ln (Et ?_)
  refine Cc O (fun hc2=>?_) (fun hc2=>?_)
  ·
   have hch:charB (s[i]?.getD 0)=false:=by unfold charB; revert hc2; cases letterB _<;>cases digitB _<;>simp
   refine Cs (Cr (V0 (Ya O) (Ln (Et (Crt (Ebr (Er (Er (Ebr (Er ?_))))))))))
   refine R1 O O fun w' hw=>?_
   exact ⟨by unfold nameB; rw [all_no hlt hch]; simp,hw.fr⟩
  have hch:charB (s[i]?.getD 0)=true:=by unfold charB; revert hc2; cases letterB _<;>cases digitB _<;>simp
  refine Ck (Eb (Et (Cr (V0 (Ym O) ?_))))
  refine V0 (Yi O O O (by omega)) ?_
  refine V0 (Ya O) (Ln ?_)
  exact Ea (i+1) (by omega) ⟨by omega,fun j hj=>by rcases Nat.lt_succ_iff_lt_or_eq.1 hj with h | rfl; exact hall j h; exact hch⟩ (sc rfl (sc rfl sn)) (fun _ h=>h)
 have hge:¬i<s.length:=by simpa using hc1
 refine Ce (Ex (Ex (Ebh (Et (Cs (Cr (V0 (Ya O) (Ln (Et (Crt ?_))))))))))
 refine R1 O O fun w' hw=>?_
 exact ⟨by unfold nameB; rw [all_yes fun j hj=>hall j (by omega),hok]; rfl,hw.fr⟩
theorem lexName_any (s:List UInt8) (w:World) :
   Calls Tryz.prog 29 #[st s] w fun e w'=>e = .returned (.bool (nameB s))∧Ext w w':=by
 refine enter Tryz.func29 O 33 O O ?_
 refine CE (Vs:=[]) (Ws.init (by simp)) ?_
 refine Cs (Cr (V0 (Ya O) (Ln (Et (Cs (Cs (Cr (V0 (Ym O) (V0 (yl_lens us9 O) (V0 (yl_eq O O) ?_))))))))))
 refine V0 (Ym O) ?_
 apply Lo 3 O O O O Y O O O O O
 ·
  intro hg0
  refine Vg (Ym O) (Vg (yl_lens us9 O) (Vg (yl_gt O O) ?_))
  exact Gt 3 O O O
 refine V0 (Ym O) ?_
 apply Lo 3 O O O O Y O O O O O
 ·
  intro hg1
  have h0:0<s.length:=by
    rcases Nat.eq_zero_or_pos s.length with h | h
    · simp [h] at hg1
    · exact h
  have hu0:=at0 h0
  refine Vg (Ym O) ?_
  refine Vg (yl_idxk us9 O O (by assumption)) ?_
  refine Vg (yl_lt O O) ?_
  exact Gt 3 O O O
 refine V0 (Ym O) ?_
 apply Lo 3 O O O O Y O O O O O
 ·
  intro hg2
  have h0:0<s.length:=by
    rcases Nat.eq_zero_or_pos s.length with h | h
    · simp [h] at hg2
    · exact h
  have hu0:=at0 h0
  refine Vg (Ym O) (Vg (yl_idxk us9 O O hu0) (Vg (yl_gt O O) ?_))
  exact Gt 3 O O O
 refine Ln (Et ?_)
 refine Cc O (fun hc0=>?_) (fun hc0=>?_)
 ·
  rw [lex_cond] at hc0
  have hn:nameB s=false:=by
    unfold nameB
    simp only [Bool.not_eq_true'] at hc0
    rw [hc0]; rfl
  refine Cs (Cr (V0 (Ya O) (Ln (Et (Crt (Er ?_))))))
  refine R1 O O fun w' hw=>?_
  exact ⟨by rw [hn],hw.fr⟩
 rw [lex_cond] at hc0
 have hok:((decide (1≤s.length)&&decide (s.length≤8))&&letterB ((s[0]?.getD 0).toNat))=true:=by simpa using hc0
 have h8:s.length≤8:=by simp at hok; omega
 refine Ck (Et (Cs (Cs (Cr (V0 (Ym O) (V0 (yl_lens us9 O) (V0 (Ym O) (Ln (Et (Cb ?_))))))))))
 refine CW (ι:=Nat) (fun i=>[(24,.int .i64 (i:Int))]) [(0,_),(23,_)] (fun i=>i≤s.length∧∀j,j<i→charB (s[j]?.getD 0)=true) (fun i=>s.length-i) 0 ⟨Nat.zero_le _,by simp⟩ (sc O (sc O (sc O sn))) ?_
 intro i ⟨hi,hall⟩
 refine Cs (Cr (V0 (yl_lt O O) (Ln (Et (Cs ?_)))))
 refine Cc O (fun hc1=>?_) (fun hc1=>?_)
 ·
  have hlt:i<s.length:=by simpa using hc1
  have hui:=at0 hlt
  refine Ck (Et (Cs (Cb (Cs (Cr (V0 (Ym O) (V0 (Ya O) (Ln (Et (Cs (Cr (V0 (Ym O) (V0 (Ym O) ?_)))))))))))))
  refine V0 (yl_idxk us9 O O hui) ?_
  refine Lp Y O en72 O (fun w hw=>plain_char _ w) ?_
  refine V0 (yl_not O) (Ln (Et ?_))
  refine Cc O (fun hc2=>?_) (fun hc2=>?_)
  ·
   have hch:charB (s[i]?.getD 0)=false:=by unfold charB; revert hc2; cases letterB _<;>cases digitB _<;>simp
   refine Cs (Cr (V0 (Ya O) (Ln (Et (Crt (Ebr (Er (Er (Ebr (Er ?_))))))))))
   refine R1 O O fun w' hw=>?_
   exact ⟨by unfold nameB; rw [all_no hlt hch]; simp,hw.fr⟩
  have hch:charB (s[i]?.getD 0)=true:=by unfold charB; revert hc2; cases letterB _<;>cases digitB _<;>simp
  refine Ck (Eb (Et (Cr ?_)))
  refine V0 (Yi O O O (by omega)) ?_
  refine V0 (Ym O) (Ln ?_)
  exact Ea (i+1) (by omega) ⟨by omega,fun j hj=>by rcases Nat.lt_succ_iff_lt_or_eq.1 hj with h | rfl; exact hall j h; exact hch⟩ (sc rfl (sc rfl (sc rfl sn))) (fun _ h=>h)
 have hge:¬i<s.length:=by simpa using hc1
 refine Ce (Ex (Ex (Ebh (Et (Cs (Cr (V0 (Ya O) (Ln (Et (Crt ?_))))))))))
 refine R1 O O fun w' hw=>?_
 exact ⟨by unfold nameB; rw [all_yes fun j hj=>hall j (by omega),hok]; rfl,hw.fr⟩
theorem indexByte_any (s:List UInt8) (u:UInt8) (w:World):Calls Tryz.prog 168 #[st s,.int .u8 (u.toNat:Int)] w fun e w'=>e = .returned (.int .i64 (Lib.indexByte s u))∧Ext w w':=
 (Any.strings_IndexByte Go.Proofs.Tryz.lays137 ⟨s.toArray⟩ (u.toNat:Int) w).mono fun e w' h=>by
   obtain ⟨h1,h2⟩:=h
   subst h2
   have e1:((u.toNat:Int)).toNat.toUInt8=u:=by simp
   rw [e1] at h1
   exact ⟨h1,Fr.refl _ _⟩
theorem lexSign_any (u:UInt8) (w:World) :
   Calls Tryz.prog 142 #[.int .u8 (u.toNat:Int)] w fun e w'=>e = .returned (.bool (signB u))∧Ext w w':=by
 refine enter Tryz.func142 O 6 O O ?_
 refine CE (Vs:=[]) (Ws.init (by simp)) ?_
 refine Cs (Cr (V0 (Ya O) (Ln (Et (Cs (Cr (V0 (Ym O) ?_)))))))
 refine Lp Y O en168 O (fun w hw=>indexByte_any signL u w) ?_
 refine V0 (yl_ge O O) (V0 (Ya O) (Ln (Et (Crt ?_))))
 refine R1 O O fun w' hw=>?_
 exact ⟨by rw [indexByte_ge0]; rfl,hw.fr⟩
theorem take_snoc {α:Type} {l:List α} {i:Nat} {x:α} (h:l[i]? = some x):l.take (i+1)=l.take i++[x]:=by rw [List.take_add_one,h]; rfl
def atoiV (s:List UInt8):Int:=match Lib.atoiAll s with | .ok v=>v | .range=>Lib.atoiSat s | _=>0
def atoiK (s:List UInt8):Bool:=match Lib.atoiAll s with | .ok _=>true | _=>false
theorem atoiV_in (s:List UInt8) : -9223372036854775808≤atoiV s∧atoiV s≤9223372036854775807:=by
 unfold atoiV
 cases h:Lib.atoiAll s with
 | ok v=>exact Lib.atoiAll_bounds h
 | range=>exact Lib.atoiSat_bounds s
 | _=>simp
theorem wordP_no {s:List UInt8} (h:nameB s=false):wordP s=(⟨2,atoiV s,[]⟩,((atoiK s&&decide (0≤atoiV s))&&decide (atoiV s≤1099511627775))&&(Lib.itoa (atoiV s)==s)):=by
 rw [wordP,if_neg (by simp [h])]
 unfold atoiV atoiK
 cases Lib.atoiAll s<;>simp
theorem lexO_no {s:List UInt8} {l:List Tok} {t:List UInt8} (h:lexO s=(lexO t).map (l++·)) (ht:lexO t=none):¬4096<s.length→lexR s=([],1):=fun hl=>by
 rw [lexR,if_neg hl,h,ht]; rfl
theorem lexO_yes {s:List UInt8} {l:List Tok} (h:lexO s=(lexO []).map (l++·)):¬4096<s.length→lexR s=(l,0):=fun hl=>by
 rw [lexR,if_neg hl,h]; simp [lexO_nil]
theorem map_app {o:Option (List Tok)} {l:List Tok} {t:Tok}:(o.map (t::·)).map (l++·)=o.map ((l++[t])++·):=by
 cases o<;>simp
abbrev Laid (H:View):Prop:=LaidV Tryz.prog 3 0 1 H
def powNm : String := (Rows.objChecksRow.laid.map (·.1)).getD 2 ""
theorem powName:Tryz.prog.globalNamed powNm=some 3:=by kernel_rfl
theorem itoa_any (G:View) (n:Int) (h0 : -9223372036854775808≤n) (h1:n≤9223372036854775807) (w:World) (hG:Le G w) (hz:Laid G) :
   Calls Tryz.prog 167 #[.int .i64 n] w fun e w'=>e = .returned (st (Lib.itoa n))∧Ext w w':=
 (Any.strconv_Itoa Go.Proofs.Tryz.laysM171 n h0 h1 w (hz.tab hG powName)).mono fun e w' h=>by
   obtain ⟨h1,k,os,rfl⟩:=h
   exact ⟨h1,ext_grow w k os⟩
theorem atoi_any (G:View) (s:List UInt8) (hs:s.length≤4096) (w:World) (hG:Le G w) (hz:Laid G) :
   Calls Tryz.prog 166 #[st s] w fun e w'=>∃r:Value,e = .returned (.tuple #[.int .i64 (atoiV s),r])∧Ext w w'∧ErrIs r (atoiK s):=by
 have hsz:(ByteArray.mk s.toArray).size=s.length:=size_st s
 cases h:Lib.atoiAll s with
 | ok v=>
   refine (Any.strconv_Atoi_ok Go.Proofs.Tryz.laysC172 ⟨s.toArray⟩ (by rw [hsz]; omega) v h w).mono fun e w' hh=>?_
   obtain ⟨h1,h2⟩:=hh
   refine ⟨.nilIface,by simp only [atoiV,h]; exact h1,?_,by simp [ErrIs,atoiK,h]⟩
   rcases h2 with rfl | ⟨t,rfl⟩
   · exact Fr.refl _ _
   · exact Ext.of_below (Lib.bytesWorld_below _ _ _)
 | range=>
   obtain ⟨ev,hv,hev⟩:=hz.rng
   refine (Any.strconv_Atoi_range Go.Proofs.Tryz.laysC172 ⟨s.toArray⟩ (by rw [hsz]; omega) h ev w (hG.cell hv) hev).mono fun e w' hh=>?_
   obtain ⟨N,h1,_,_,h2⟩:=hh
   exact ⟨_,by simp only [atoiV,h]; exact h1,Ext.of_below h2,by simp [ErrIs,atoiK,h]⟩
 | _=>
   obtain ⟨ev,hv,hev⟩:=hz.syn
   refine (Any.strconv_Atoi_syntax Go.Proofs.Tryz.laysC172 ⟨s.toArray⟩ (by rw [hsz]; omega) h ev w (hG.cell hv) hev).mono fun e w' hh=>?_
   obtain ⟨N,h1,_,_,h2⟩:=hh
   exact ⟨_,by simp only [atoiV,h]; exact h1,Ext.of_below h2,by simp [ErrIs,atoiK,h]⟩
theorem uif139:Tryz.prog.underlying 139=some (.interface (Tryz.prog.methodsAt 139)):=by kernel_rfl
theorem zr255:zeroOf Tryz.prog 255=some (.agg #[.int .i64 0,.int .i64 0,st []]):=by kernel_rfl
theorem en29:Enters Tryz.prog 29:=enters_of Tryz.func29 (by kernel_rfl) rfl
theorem pl255:placesP Tryz.prog 255=some [(0,1),(1,1),(2,1)]:=by kernel_rfl
theorem sz255:sizeP Tryz.prog 255=some 3:=by kernel_rfl
theorem ag255:aggOf Tryz.prog 255=some 3:=by kernel_rfl
theorem en166:Enters Tryz.prog 166:=enters_of Tryz.func166 (by kernel_rfl) rfl
theorem en167:Enters Tryz.prog 167:=enters_of Tryz.func167 (by kernel_rfl) rfl
theorem en141:Enters Tryz.prog 141:=enters_of Tryz.func141 (by kernel_rfl) rfl
theorem el223:EltOk Tryz.prog 223 255 (.agg #[.int .i64 0,.int .i64 0,st []]) 3 32:=eltOk_of (by kernel_rfl)
theorem en142:Enters Tryz.prog 142:=enters_of Tryz.func142 (by kernel_rfl) rfl
theorem word_any (G:View) (s:List UInt8) (hs:s.length≤4096) (w:World) (hG:Le G w) (hz:Laid G) :
   Calls Tryz.prog 141 #[st s] w fun e w'=>e = .returned (.tuple #[.agg #[.int .i64 (wordP s).1.kind,.int .i64 (wordP s).1.n,st (wordP s).1.text],.bool (wordP s).2])∧Ext w w':=by
 refine enter Tryz.func141 O 33 O O ?_
 refine CE (Vs:=[G]) (Ws.init (by simp [hG])) ?_
 refine Cs (Cr ?_)
 refine Al Y O zr255 fun b2=>?_
 refine V0 (Ya O) (Ln (Et (Cs (Cs (Cr (V0 (Ym O) ?_))))))
 refine Lp Y O en29 O (fun w hw=>lexName_any _ w) ?_
 refine Ln (Et ?_)
 refine Cc O (fun hc0=>?_) (fun hc0=>?_)
 ·
  have hW:wordP s=(⟨1,0,s⟩,true):=by rw [wordP,if_pos hc0]
  refine Cs (Cr (V0 (Ym O) (V0 (Yb zr255 pl255 O O) (Lst 0 Y O O O sz255 O O O (V0 (Ya O) (Ln (Et (Crt (Er ?_)))))))))
  refine WE.retc2 0 O O O O ag255 O fun w' hw=>?_
  rw [hW]
  exact ⟨O,hw.fr⟩
 have hW:=wordP_no hc0
 have hin:=atoiV_in s
 refine Ck (Et (Cs (Cr (V0 (Ym O) ?_))))
 refine Ld Y O en166 O (fun r:Value=>.tuple #[.int .i64 (atoiV s),r]) (fun _ r=>ErrIs r (atoiK s)) (fun w hw=>atoi_any G s hs w (hw.vs _ (by simp)) hz) ?_
 intro F12 r12 hf12 h12
 refine V0 (Ym O) (V0 (Yx O O) (V0 (Yx O O) (V0 (Ya O) (V0 (Ya O) (Ln (Et (Cs (Cr ?_))))))))
 refine V0 (Ym O) (V0 (Yb zr255 pl255 O O) (V0 (Ym O) (V0 (yl_eqnr (atoiK s) uif139 O h12) (V0 (Ym O) ?_))))
 apply La 2 O O O O Y O O O O O
 ·
  intro hg0
  refine Vg (Ym O) (Vg (yl_ge O O) ?_)
  exact Gt 2 O O O
 refine V0 (Ym O) ?_
 apply La 2 O O O O Y O O O O O
 ·
  intro hg1
  refine Vg (Ym O) (Vg (yl_le O O) ?_)
  exact Gt 2 O O O
 refine V0 (Ym O) ?_
 apply La 4 O O O O Y O O O O O
 ·
  intro hg2
  refine Vg (Ym O) ?_
  refine Lp (.g O O O) O en167 O (fun w hw=>itoa_any G _ hin.1 hin.2 w (hw.vs _ (by simp)) hz) ?_
  refine Vg (Ym O) (Vg (yl_eqs O O) ?_)
  exact Gt 4 O O O
 refine Lst 0 Y O O O sz255 O O O (V0 (Ya O) (Ln (Et (Crt ?_))))
 refine WE.retc2 0 O O O O ag255 O fun w' hw=>?_
 rw [hW]
 exact ⟨O,hw.fr⟩
theorem lex_any (G:View) (s:List UInt8) (w:World) (hG:Le G w) (hz:Laid G) :
   Calls Tryz.prog 119 #[st s] w fun e w'=>∃r:Option Addr×Nat,e = .returned (.tuple #[.slice r.1 (lexR s).1.length r.2,.int .i64 (lexR s).2])∧Ext w w'∧Sl rdTok 3 (nv w w') r.1 r.2 (lexR s).1:=by
 refine enter Tryz.func119 O 66 O O ?_
 refine CE (Vs:=[G]) (Ws.init (by simp [hG])) ?_
 refine Cs (Cr (V0 (Ya O) (V0 (Ya O) (Ln (Et (Cs (Cs (Cr (V0 (Ym O) (V0 (yl_lens us9 O) ?_))))))))))
 refine V0 (yl_gt O O) (Ln (Et ?_))
 refine Cc O (fun hc0=>?_) (fun hc0=>?_)
 ·
  have hl:4096<s.length:=by simp at hc0; omega
  have hR:lexR s=([],2):=by rw [lexR,if_pos hl]
  refine Cs (Cr (V0 (Ya O) (V0 (Ya O) (Ln (Et (Crt (Er ?_)))))))
  refine WE.retR (rs_2 O (rv_tmp O) (rv_tmp O)) fun w' hw=>?_
  rw [hR]
  exact ⟨(none,0),O,hw.fr,Sl.nil⟩
 have hl:¬4096<s.length:=by simp at hc0; omega
 refine Ck (Et (Cs (Cr (V0 (Ya O) ?_))))
 refine LW (fun _ h=>h.osl_nil 255 3) ?_
 refine Ln (Et (Cs (Cb ?_)))
 refine CLk (ι:=List UInt8×List Tok×Option Addr×Nat) (fun g=>[(0,st g.1),(4,.slice g.2.2.1 g.2.1.length g.2.2.2)]) [] (fun g=>Ws w [] [osT 255 3 Tok.cells g.2.2.1 g.2.2.2 (g.2.1)] [G]) (fun g=>g.2.1.length+g.1.length≤s.length∧lexO s=(lexO g.1).map (g.2.1++·)) (fun g=>g.1.length) (s,[],none,0) ⟨by simp,by simp⟩ (sc O (sc O sn)) (fun _ h=>h) ?_
 intro g ⟨hgl,hO⟩
 refine Cs (Cs (Cr (V0 (Ym O) (V0 (yl_nes O O) (Ln (Et ?_))))))
 refine Cc O (fun hc1=>?_) (fun hc1=>?_)
 ·
  obtain ⟨u,r,hcr⟩:∃u r,g.1=u::r:=by
    cases hg1:g.1 with
    | nil=>rw [hg1] at hc1; simp at hc1
    | cons u r=>exact ⟨u,r,rfl⟩
  have hcl:g.1.length=r.length+1:=by rw [hcr]; rfl
  refine Ck (Et (Cb (Cs (Cr (V0 (Ya O) (Ln (Et (Cs (Cb ?_)))))))))
  refine CW (ι:=Nat) (fun i=>[(5,.int .i64 (i:Int))]) [(0,_),(4,_)] (fun i=>i≤g.1.length∧∀j,j<i→charB (g.1[j]?.getD 0)=true) (fun i=>g.1.length-i) 0 ⟨Nat.zero_le _,by simp⟩ (sc O (sc O (sc O sn))) ?_
  intro i ⟨hi,hall⟩
  refine Cs (Cs (Cr (V0 (Ym O) (V0 (Ym O) (V0 (yl_lens us9 O) (V0 (yl_lt O O) (V0 (Ym O) ?_)))))))
  apply La 4 O O O O Y O O O O O
  ·
   intro hg0
   have hlt:i<g.1.length:=by simpa using hg0
   have hu0:=at0 hlt
   refine Vg (Ym O) (Vg (Ym O) (Vg (yl_idxk us9 O O hu0) ?_))
   refine Lp (.g O O O) O en72 O (fun w hw=>plain_char _ w) ?_
   exact Gt 4 O O O
  refine Ln (Et ?_)
  refine Cc O (fun hc2=>?_) (fun hc2=>?_)
  ·
   have hlt:i<g.1.length:=by
     simp only [Bool.and_eq_true,decide_eq_true_eq] at hc2
     omega
   have hch:charB (g.1[i]?.getD 0)=true:=by
     simp only [Bool.and_eq_true] at hc2
     exact hc2.2
   refine Ck (Et (Cb (Cr (V0 (Ym O) ?_))))
   refine V0 (Yi O O O (by omega)) ?_
   refine V0 (Ya O) (Ln (Eb ?_))
   exact Ea (i+1) (by omega) ⟨by omega,fun j hj=>by rcases Nat.lt_succ_iff_lt_or_eq.1 hj with h | rfl; exact hall j h; exact hch⟩ (sc rfl (sc rfl (sc rfl sn))) (fun _ h=>h)
  have hrn:runC g.1=i:=by
    refine runC_spec _ _ hi hall ?_
    rcases Nat.lt_or_ge i g.1.length with h | h
    · right
      rw [decide_eq_true (by omega:((i:Nat):Int)<(g.1.length:Int)),Bool.true_and] at hc2
      exact hc2
    · left; omega
  have hu1:g.1[0]? = some u:=by rw [hcr]; rfl
  refine Ce (Ex (Ex (Ebh (Et (Cs (Cs (Cr (V0 (Ym O) (V0 (yl_idxk us9 O O (i:=0) hu1) (V0 (Ya O) (Ln (Et (Cb (Cs (Cr ?_)))))))))))))))
  refine V0 (Ym O) (V0 (yl_gt O O) (V0 (Ya O) (Ln (Et ?_))))
  refine Cc O (fun hc3=>?_) (fun hc3=>?_)
  ·
   have h0n:0<i:=by simp at hc3; omega
   refine Cs (Cr (V0 (Ym O) (V0 (Ym O) ?_)))
   refine V0 (yl_ssh Tryz.underlying9 O O (by omega) (by omega)) ?_
   rw [Int.toNat_natCast]
   refine Lp Y O en141 O (fun w hw=>word_any G _ (by simp; omega) w (hw.vs _ (by simp)) hz) ?_
   refine V0 (Ym O) (V0 (Yx O O) (V0 (Yx O O) ?_))
   refine Al Y O zr255 fun b7=>?_
   refine Lst 0 Y O O O sz255 O O O (V0 (Ya O) (Ln (Et (Cs (Cs (Cr (V0 (Ym O) (V0 (yl_not O) (Ln (Et ?_))))))))))
   refine Cc O (fun hc4=>?_) (fun hc4=>?_)
   ·
    have hR:lexR s=([],1):=lexO_no hO (by rw [lexO_word (by omega),hrn,word_same,if_neg (by simpa using hc4)]) hl
    refine Cs (Cr (V0 (Ya O) (V0 (Ya O) (Ln (Et (Crt (Er (Ebr (Er (Ebr (Er (Ebr (Er ?_)))))))))))))
    refine WE.retR (rs_2 O (rv_tmp O) (rv_tmp O)) fun w' hw=>?_
    rw [hR]
    exact ⟨(none,0),O,hw.fr,Sl.nil⟩
   have hwt:wordT (g.1.take i)=some ((wordP (g.1.take i)).1):=by rw [word_same,if_pos (by simpa using hc4)]
   refine Ck (Et (Cs (Cr (V0 (Ym O) (V0 (Yda 0 O O ag255 O) ?_)))))
   refine Lb Y O el223 O O O O fun b42=>?_
   refine Lrb 0 (.cells (Tok.cells ((wordP (g.1.take i)).1)).toArray 255 (0,0)) O O ?_
   refine LA ((wordP (g.1.take i)).1) 2 0 Y O el223 O O O O O O (by omega) (by omega) fun a43 c43=>?_
   refine V0 (Ya O) (Ln (Et (Cs (Cr (V0 (Ym O) (V0 (Ym O) ?_))))))
   refine V0 (yl_sst Tryz.underlying9 O O (by omega) (by omega)) ?_
   rw [Int.toNat_natCast]
   refine V0 (Ya O) (Ln (Et (Ce (Ebm O (Ex (Ebh ?_))))))
   exact Ea ((g.1.drop i,g.2.1++[(wordP (g.1.take i)).1],a43,c43):List UInt8×List Tok×Option Addr×Nat) (by dsimp only; simp; omega) ⟨by dsimp only; simp; omega,by
       dsimp only
       rw [hO,lexO_word (by omega),hrn,hwt]
       simp only
       rw [map_app]⟩ (sc rfl (sc rfl sn)) (fun _ h=>Wd 2 h)
  have h0c:runC (u::r)=0:=by rw [←hcr,hrn]; simp at hc3; omega
  refine Cs (Cr (V0 (Ym O) ?_))
  refine Lp Y O en142 O (fun w hw=>lexSign_any _ w) ?_
  refine V0 (Ya O) (Ln (Et ?_))
  refine Cc O (fun hc5=>?_) (fun hc5=>?_)
  ·
   refine Cr (V0 (Ym O) (V0 (Ym O) ?_))
   refine V0 (yl_ssh Tryz.underlying9 O O (by omega) (by omega)) ?_
   rw [show g.1.take (1:Int).toNat=[u] by rw [hcr]; rfl]
   refine V0 (Yb zr255 pl255 O O) ?_
   refine Lb Y O el223 O O O O fun b54=>?_
   refine Lrb 0 (.cells (Tok.cells (Tok.mk 3 0 [u])).toArray 255 (0,0)) O O ?_
   refine LA (Tok.mk 3 0 [u]) 1 0 Y O el223 O O O O O O (by omega) (by omega) fun a55 c55=>?_
   refine V0 (Ya O) (Ln (Eb (Et (Cr (V0 (Ym O) ?_)))))
   refine V0 (yl_sst Tryz.underlying9 O O (by omega) (by omega)) ?_
   rw [show g.1.drop (1:Int).toNat=r by rw [hcr]; rfl]
   refine V0 (Ya O) (Ln (Eb ?_))
   exact Ea ((r,g.2.1++[Tok.mk 3 0 [u]],a55,c55):List UInt8×List Tok×Option Addr×Nat) (by dsimp only; omega) ⟨by dsimp only; simp; omega,by
       dsimp only
       rw [hO,hcr,lexO_sign h0c (by simpa using hc5),map_app]⟩ (sc rfl (sc rfl sn)) (fun _ h=>Wd 1 h)
  refine Cs (Cr (V0 (Ym O) (V0 (yl_ne O O) (V0 (Ym O) ?_))))
  apply La 2 O O O O Y O O O O O
  ·
   intro hg1
   refine Vg (Ym O) (Vg (yl_ne O O) ?_)
   exact Gt 2 O O O
  refine V0 (Ya O) (Ln (Et ?_))
  refine Cc O (fun hc6=>?_) (fun hc6=>?_)
  ·
   have hbl:¬(u=32∨u=10):=by
     rintro (h | h)<;>rw [h] at hc6<;>simp at hc6
   have hR:lexR s=([],1):=lexO_no hO (by rw [hcr,lexO_bad h0c (by simpa using hc5) hbl]) hl
   refine Cs (Cr (V0 (Ya O) (V0 (Ya O) (Ln (Et (Crt (Ebr (Er (Ebr (Er (Ebr (Er ?_))))))))))))
   refine WE.retR (rs_2 O (rv_tmp O) (rv_tmp O)) fun w' hw=>?_
   rw [hR]
   exact ⟨(none,0),O,hw.fr,Sl.nil⟩
  have hbl:u=32∨u=10:=by
    simp only [bne,Bool.and_eq_false_iff,Bool.not_eq_false',beq_iff_eq] at hc6
    rcases hc6 with h | h
    · left; exact toNat_inj (by simpa using h)
    · right; exact toNat_inj (by simpa using h)
  refine Ck (Eb (Et (Cr (V0 (Ym O) ?_))))
  refine V0 (yl_sst Tryz.underlying9 O O (by omega) (by omega)) ?_
  rw [show g.1.drop (1:Int).toNat=r by rw [hcr]; rfl]
  refine V0 (Ya O) (Ln (Eb ?_))
  exact Ea ((r,g.2.1,g.2.2.1,g.2.2.2):List UInt8×List Tok×Option Addr×Nat) (by dsimp only; omega) ⟨by dsimp only; omega,by
      dsimp only
      rw [hO,hcr,lexO_blank h0c (by simpa using hc5) hbl]⟩ (sc rfl (sc rfl sn)) (fun _ h=>h)
 have hge:g.1=[]:=by simpa using hc1
 have hR:lexR s=(g.2.1,0):=by
   rw [hge] at hO
   exact lexO_yes hO hl
 refine Ce (Ex (Ex (Ebh (Et (Cs (Cr (V0 (Ym O) (V0 (Ya O) (V0 (Ya O) (Ln (Et (Crt ?_))))))))))))
 refine WE.retR (rs_2 O (rv_tmp O) (rv_tmp O)) fun w' hw=>?_
 rw [hR]
 exact ⟨(g.2.2.1,g.2.2.2),O,hw.fr,hw.slT 0 O Tok.cells_len (fun _ _ _ _ h=>h)⟩
abbrev kI:Int→Value:=fun n:Int=>Value.int .i64 n
def vS (r:Bool) (a:Int):Value:=.agg #[.bool r,.int .i64 a]
def exprsK (n:Nat):List (GEnt Int):=[(1,vS false 0,0),(2,vS false 0,1),(3,vS true 0,2),(4,vS true 1,3),(5,vS true (-1),4),(6,vS false 1,5)]++(List.range n).map fun j=>(((7+j:Nat):Int),vS false 2,6+j)
def stmtsK:List (GEnt Int):=[(1,vS true 1,0),(2,vS true 2,1),(3,vS true (-1),2),(4,vS false 1,3),(5,vS false 1,4),(6,vS false 1,5),(7,vS false 1,6)]
theorem exprs_step (n:Nat) (h:n<9):gobj kI (gput ((7+n:Nat):Int) (vS false 2) (exprsK n) (6+n)) (gclock ((7+n:Nat):Int) (exprsK n) (6+n))=gobj kI (exprsK (n+1)) (6+(n+1)):=by
 match n,h with
 | 0,_=>rfl
 | 1,_=>rfl
 | 2,_=>rfl
 | 3,_=>rfl
 | 4,_=>rfl
 | 5,_=>rfl
 | 6,_=>rfl
 | 7,_=>rfl
 | 8,_=>rfl
theorem exprs_get (op:Int):gget op (exprsK 9) (vS false 0)=vS ((shE op).getD (false,0)).1 ((shE op).getD (false,0)).2∧ghas op (exprsK 9) = !(shE op).isNone:=by
 by_cases h1:op=1
 · subst h1; exact ⟨rfl,rfl⟩
 by_cases h2:op=2
 · subst h2; exact ⟨rfl,rfl⟩
 by_cases h3:op=3
 · subst h3; exact ⟨rfl,rfl⟩
 by_cases h4:op=4
 · subst h4; exact ⟨rfl,rfl⟩
 by_cases h5:op=5
 · subst h5; exact ⟨rfl,rfl⟩
 by_cases h6:op=6
 · subst h6; exact ⟨rfl,rfl⟩
 by_cases h7:op=7
 · subst h7; exact ⟨rfl,rfl⟩
 by_cases h8:op=8
 · subst h8; exact ⟨rfl,rfl⟩
 by_cases h9:op=9
 · subst h9; exact ⟨rfl,rfl⟩
 by_cases h10:op=10
 · subst h10; exact ⟨rfl,rfl⟩
 by_cases h11:op=11
 · subst h11; exact ⟨rfl,rfl⟩
 by_cases h12:op=12
 · subst h12; exact ⟨rfl,rfl⟩
 by_cases h13:op=13
 · subst h13; exact ⟨rfl,rfl⟩
 by_cases h14:op=14
 · subst h14; exact ⟨rfl,rfl⟩
 by_cases h15:op=15
 · subst h15; exact ⟨rfl,rfl⟩
 have hn:shE op=none:=by
   unfold shE
   rw [if_neg (by omega),if_neg h3,if_neg h4,if_neg h5,if_neg h6,if_neg (by omega)]
 have hf:gfind op (exprsK 9) 0=none:=by
   show gfind op [(1,vS false 0,0),(2,vS false 0,1),(3,vS true 0,2),(4,vS true 1,3),(5,vS true (-1),4),(6,vS false 1,5),(7,vS false 2,6),(8,vS false 2,7),(9,vS false 2,8),(10,vS false 2,9),(11,vS false 2,10),(12,vS false 2,11),(13,vS false 2,12),(14,vS false 2,13),(15,vS false 2,14)] 0=none
   simp [gfind,h1,h2,h3,h4,h5,h6,h7,h8,h9,h10,h11,h12,h13,h14,h15]
 rw [gget,ghas,hf,hn]
 exact ⟨O,O⟩
theorem stmts_get (op:Int):gget op stmtsK (vS false 0)=vS ((shS op).getD (false,0)).1 ((shS op).getD (false,0)).2∧ghas op stmtsK = !(shS op).isNone:=by
 by_cases h1:op=1
 · subst h1; exact ⟨rfl,rfl⟩
 by_cases h2:op=2
 · subst h2; exact ⟨rfl,rfl⟩
 by_cases h3:op=3
 · subst h3; exact ⟨rfl,rfl⟩
 by_cases h4:op=4
 · subst h4; exact ⟨rfl,rfl⟩
 by_cases h5:op=5
 · subst h5; exact ⟨rfl,rfl⟩
 by_cases h6:op=6
 · subst h6; exact ⟨rfl,rfl⟩
 by_cases h7:op=7
 · subst h7; exact ⟨rfl,rfl⟩
 have hn:shS op=none:=by
   unfold shS
   rw [if_neg h1,if_neg h2,if_neg h3,if_neg (by omega)]
 have hf:gfind op stmtsK 0=none:=by simp [stmtsK,gfind,h1,h2,h3,h4,h5,h6,h7]
 rw [gget,ghas,hf,hn]
 exact ⟨O,O⟩
theorem cntN_app:∀a b:List Tx,cntN (a++b)=cntN a+cntN b
 | [],b=>by apply Cnt.ext'<;>simp [Cnt.add_f,Cnt.add_m,Cnt.add_k,cntN,c0]
 | x::a,b=>by
   rw [List.cons_append,show ∀q,cntN (x::q)=noteF (!nameT x)+cntN q from fun _=>rfl,cntN_app a b,show ∀q,cntN (x::q)=noteF (!nameT x)+cntN q from fun _=>rfl,Cnt.add_assoc']
theorem cntN_one (s:Tx):cntN [s]=noteF (!nameT s):=rfl
theorem cntN_take {l:List Tx} {i:Nat} {s:Tx} (h:l[i]? = some s):cntN (l.take (i+1))=cntN (l.take i)+noteF (!nameT s):=by rw [take_snoc h,cntN_app,cntN_one]
theorem add_c0 (c:Cnt):c+c0=c:=rfl
theorem tot_f (c:Cnt):c.f≤c.tot:=by unfold Cnt.tot; omega
theorem tot_m (c:Cnt):c.m≤c.tot:=by unfold Cnt.tot; omega
theorem tot_k (c:Cnt):c.k≤c.tot:=by unfold Cnt.tot; omega
theorem el22:EltOk Tryz.prog 22 9 (st []) 1 16:=eltOk_of (by kernel_rfl)
theorem es22:elemSz Tryz.prog 22=some 1:=by kernel_rfl
theorem na9:nonAgg Tryz.prog 9=true:=by kernel_rfl
theorem en192:Enters Tryz.prog 192:=enters_of Tryz.func192 (by kernel_rfl) rfl
theorem en181:Enters Tryz.prog 181:=enters_of Tryz.func181 (by kernel_rfl) rfl
theorem en180:Enters Tryz.prog 180:=enters_of Tryz.func180 (by kernel_rfl) rfl
theorem ui3:Tryz.prog.underlying 3=some (.int .i64):=by kernel_rfl
theorem pl282:placesP Tryz.prog 282=some [(0,1),(1,1)]:=by kernel_rfl
theorem zr282:zeroOf Tryz.prog 282=some (.agg #[.bool false,.int .i64 0]):=by kernel_rfl
theorem um264:Tryz.prog.underlying 264=some (.map 3 282):=by kernel_rfl
theorem mixed:Tryz.prog.follows .mixedOrders=true:=by kernel_rfl
theorem fo268_0:fieldOff Tryz.prog 268 0=some 0:=by kernel_rfl
theorem ar266:arrP Tryz.prog 266=some (10,1):=by kernel_rfl
theorem na3:nonAgg Tryz.prog 3=true:=by kernel_rfl
theorem sz3:sizeP Tryz.prog 3=some 1:=by kernel_rfl
theorem reserved_any (w:World) :
   Calls Tryz.prog 181 #[] w fun e w'=>∃r:Option Addr×Nat,e = .returned (.slice r.1 wordsL.length r.2)∧Ext w w'∧Sl rdStr 1 (nv w w') r.1 r.2 wordsL:=by
 refine enter Tryz.func181 O 2 O O ?_
 refine CE (Vs:=[]) (Ws.init (by simp)) ?_
 refine Cs (Cr (V0 (Ya O) (Ln (Et (Cs (Cr ?_))))))
 refine Lb Y O el22 O O O O fun b1=>?_
 refine V0 (Ya O) (Ln (Et (Crt ?_)))
 refine WE.retR (rs_1 O (rv_tmp O)) fun w' hw=>?_
 exact ⟨(some ⟨b1,0,none⟩,15),O,hw.fr,⟨show wordsL.length≤15 by decide,show 15≤9223372036854775807 by decide,by simp,fun j x hj=>⟨b1,0,O,fun k v hk=>hw.nvc 0 O (by
     have:k<1:=(List.getElem?_eq_some_iff.1 hk).1
     show (wordsL.flatMap strC)[0+j*1+k]? = some v
     rw [Nat.zero_add,flat_get strC_len hj this]; exact hk)⟩⟩⟩
theorem indexS_any (H:View) (a:Option Addr) (c:Nat) (l:List Tx) (s:Tx) (w:World) (hH:Le H w) (hm:Sl rdStr 1 H a c l) :
   Calls Tryz.prog 192 #[.slice a l.length c,st s] w fun e w'=>(∃n:Int,e = .returned (.int .i64 n)∧decide (0≤n)=l.contains s)∧Ext w w':=by
 have hcap:=hm.cap
 have hmax:=hm.max
 refine enter Tryz.func192 O 19 O O ?_
 refine CE (Vs:=[H]) (Ws.init (by simp [hH])) ?_
 refine Cs (Cr (V0 (Ya O) (Ln (Et (Cs (Cs (Cr (V0 (Ym O) (V0 (Yn es22 O) (V0 (Ym O) ?_))))))))))
 refine Ln (Et (Cb ?_))
 refine CW (ι:=Nat) (fun i=>[(8,.int .i64 (i:Int))]) [(0,_),(1,_),(7,_)] (fun i=>i≤l.length∧∀j,j<i→l[j]?≠some s) (fun i=>l.length-i) 0 ⟨Nat.zero_le _,by simp⟩ (sc O (sc O (sc O (sc O sn)))) ?_
 intro i ⟨hi,hall⟩
 refine Cs (Cr (V0 (yl_lt O O) (Ln (Et (Cs ?_)))))
 refine Cc O (fun hc0=>?_) (fun hc0=>?_)
 ·
  have hlt:i<l.length:=by simpa using hc0
  obtain ⟨x,hxi⟩:∃x,l[i]? = some x:=⟨_,List.getElem?_eq_getElem hlt⟩
  obtain ⟨pbx,pox,ha,hrow⟩:=hm.elt i x hxi
  have hrow:RdC H pbx (pox+i*1) (strC x):=hrow
  refine Ck (Et (Cs (Cb (Cs (Cr (V0 (Ym O) (V0 (Ya O) (Ln (Et (Cs (Cr (V0 (Ym O) (V0 (Ym O) ?_)))))))))))))
  refine V0 (Ym O) ?_
  refine V0 (Yo es22 O O (by assumption) (by omega)) ?_
  refine V0 (yl_ld 0 na9 O O (hrow 0 _ O)) (V0 (yl_eqs O O) (Ln (Et ?_)))
  refine Cc O (fun hc1=>?_) (fun hc1=>?_)
  ·
   have heq:s=x:=by simpa using hc1
   refine Cs (Cr (V0 (Ym O) (V0 (Ya O) (Ln (Et (Crt (Ebr (Er (Er (Ebr (Er ?_)))))))))))
   refine R1 O O fun w' hw=>?_
   refine ⟨⟨_,O,?_⟩,hw.fr⟩
   rw [decide_eq_true (by omega),List.contains_iff_mem.2 (by rw [heq]; exact List.mem_of_getElem? hxi)]
  have hne:¬s=x:=by simpa using hc1
  refine Ck (Eb (Et (Cr ?_)))
  refine V0 (Yi O O O (by omega)) ?_
  refine V0 (Ym O) (Ln ?_)
  exact Ea (i+1) (by omega) ⟨by omega,fun j hj=>by rcases Nat.lt_succ_iff_lt_or_eq.1 hj with h | rfl; exact hall j h; rw [hxi]; intro e; injection e with e; exact hne e.symm⟩ (sc rfl (sc rfl (sc rfl (sc rfl sn)))) (fun _ h=>h)
 have hge:¬i<l.length:=by simpa using hc0
 have hno:l.contains s=false:=by
   rw [Bool.eq_false_iff]
   intro h
   rw [List.contains_iff_mem] at h
   obtain ⟨j,hj⟩:=List.getElem?_of_mem h
   exact hall j (by have:=(List.getElem?_eq_some_iff.1 hj).1; omega) hj
 refine Ce (Ex (Ex (Ebh (Et (Cs (Cr (V0 (Ya O) (Ln (Et (Crt ?_))))))))))
 refine R1 O O fun w' hw=>?_
 refine ⟨⟨_,O,?_⟩,hw.fr⟩
 rw [hno]; rfl
theorem containsS_any (H:View) (a:Option Addr) (c:Nat) (l:List Tx) (s:Tx) (w:World) (hH:Le H w) (hm:Sl rdStr 1 H a c l) :
   Calls Tryz.prog 180 #[.slice a l.length c,st s] w fun e w'=>e = .returned (.bool (l.contains s))∧Ext w w':=by
 refine enter Tryz.func180 O 9 O O ?_
 refine CE (Vs:=[H]) (Ws.init (by simp [hH])) ?_
 refine Cs (Cr (V0 (Ya O) (Ln (Et (Cs (Cr (V0 (Ym O) (V0 (Ym O) ?_))))))))
 refine Ld Y O en192 O (fun n:Int=>.int .i64 n) (fun _ n=>decide (0≤n)=l.contains s) (fun w hw=>(indexS_any H a c l s w (hw.vs _ (by simp)) hm).mono fun e w' h=>by
     obtain ⟨⟨n,h1,h2⟩,h3⟩:=h
     exact ⟨n,h1,h3,h2⟩) ?_
 intro F7 n7 hf7 h7
 refine V0 (yl_ge O O) (V0 (Ya O) (Ln (Et (Crt ?_))))
 refine R1 O O fun w' hw=>?_
 exact ⟨by rw [h7],hw.fr⟩
theorem treeName_any (s:Tx) (w:World) :
   Calls Tryz.prog 170 #[st s] w fun e w'=>e = .returned (.bool (nameT s))∧Ext w w':=by
 refine enter Tryz.func170 O 11 O O ?_
 refine CE (Vs:=[]) (Ws.init (by simp)) ?_
 refine Cs (Cr (V0 (Ya O) (Ln (Et (Cs (Cr (V0 (Ym O) ?_)))))))
 refine Lp Y O en29 O (fun w hw=>lexName_any _ w) ?_
 refine V0 (Ym O) ?_
 apply La 4 O O O O Y O O O O O
 ·
  intro hg0
  refine Ld (.g O O O) O en181 O (fun r:Option Addr×Nat=>.slice r.1 wordsL.length r.2) (fun H r=>Sl rdStr 1 H r.1 r.2 wordsL) (fun w hw=>reserved_any w) ?_
  intro F6 r6 hf6 h6
  refine Vg (Ym O) ?_
  refine Lp (.g O O O) O en180 O (fun w hw=>containsS_any F6 r6.1 r6.2 wordsL s w (hw.vs _ (by simp)) h6) ?_
  refine Vg (yl_not O) ?_
  refine WL.wk ?_ (Gt 4 O O O)
  exact fun _ h=>Ws.drops (h) (fun _ hm=>List.mem_append_right [_] hm)
 refine V0 (Ya O) (Ln (Et (Crt ?_)))
 refine R1 O O fun w' hw=>?_
 exact ⟨O,hw.fr⟩
theorem exprs_any (w:World) :
   Calls Tryz.prog 149 #[] w fun e w'=>∃b:Nat,e = .returned (.map (some b))∧Ws w [] [blk b (gobj kI (exprsK 9) 15)] [] w':=by
 refine enter Tryz.func149 O 19 O O ?_
 refine CE (Vs:=[]) (Ws.init (by simp)) ?_
 refine Cs (Cr (V0 (Ya O) (Ln (Et (Cs (Cr ?_))))))
 refine WL.gmk (fun n:Int=>Value.int .i64 n) Y O fun b3=>?_
 refine V0 (Yb zr282 pl282 O O) ?_
 refine WL.gins 0 keyInt Y um264 ui3 O O O O ?_
 refine V0 (Yb zr282 pl282 O O) ?_
 refine WL.gins 0 keyInt Y um264 ui3 O O O O ?_
 refine V0 (Yb zr282 pl282 O O) ?_
 refine WL.gins 0 keyInt Y um264 ui3 O O O O ?_
 refine V0 (Yb zr282 pl282 O O) ?_
 refine WL.gins 0 keyInt Y um264 ui3 O O O O ?_
 refine V0 (Yb zr282 pl282 O O) ?_
 refine WL.gins 0 keyInt Y um264 ui3 O O O O ?_
 refine V0 (Yb zr282 pl282 O O) ?_
 refine WL.gins 0 keyInt Y um264 ui3 O O O O ?_
 refine V0 (Ym O) ?_
 refine Lrb 0 (gobj kI (exprsK 0) (6+0)) O O ?_
 refine V0 (Ya O) (Ln (Et (Cs (Cs (Cr (V0 (Ya O) (Ln (Et (Cb ?_)))))))))
 refine CLk (ι:=Nat) (fun i=>[(2,.int .i64 ((7+i:Nat):Int))]) [(0,_),(1,_)] (fun i=>Ws w [] [blk b3 (gobj kI (exprsK i) (6+i))] []) (fun i=>i≤9) (fun i=>9-i) 0 (Nat.zero_le _) (sc O (sc O (sc O sn))) (fun _ h=>h) ?_
 intro i hi
 refine Cs (Cs (Cr (V0 (Ym O) (V0 (yl_le O O) (Ln (Et ?_))))))
 refine Cc O (fun hc0=>?_) (fun hc0=>?_)
 ·
  have hlt:i<9:=by simp at hc0; omega
  refine Ck (Et (Cs (Cb (Cr (V0 (Ym O) (V0 (Ym O) (V0 (Yb zr282 pl282 O O) ?_)))))))
  refine WL.gset 0 keyInt Y um264 ui3 O O O O ?_
  refine Ln (Eb (Et (Cr (V0 (Ym O) ?_))))
  refine V0 (yl_addv (((7+i:Nat):Int)+1) O O O (by omega)) ?_
  refine V0 (Ya O) (Ln ?_)
  rw [show (((7+i:Nat):Int)+1)=((7+(i+1):Nat):Int) by omega]
  exact Ea (i+1) (by omega) (by omega) (sc O (sc O (sc O sn))) (fun _ h=>by
    have h:=Ws.reL h 0 rfl (congrArg (blk b3) (exprs_step i hlt))
    exact h)
 have hie:i=9:=by simp at hc0; omega
 subst hie
 refine Ce (Ex (Ex (Ebh (Et (Cs (Cr (V0 (Ym O) (V0 (Ya O) (Ln (Et (Crt ?_)))))))))))
 refine WE.retR (rs_1 O (rv_tmp O)) fun w' hw=>?_
 exact ⟨b3,O,hw⟩
theorem stmts_any (w:World) :
   Calls Tryz.prog 150 #[] w fun e w'=>∃b:Nat,e = .returned (.map (some b))∧Ws w [] [blk b (gobj kI stmtsK 7)] [] w':=by
 refine enter Tryz.func150 O 10 O O ?_
 refine CE (Vs:=[]) (Ws.init (by simp)) ?_
 refine Cs (Cr (V0 (Ya O) (Ln (Et (Cs (Cr ?_))))))
 refine WL.gmk (fun n:Int=>Value.int .i64 n) Y O fun b1=>?_
 refine V0 (Yb zr282 pl282 O O) ?_
 refine WL.gins 0 keyInt Y um264 ui3 O O O O ?_
 refine V0 (Yb zr282 pl282 O O) ?_
 refine WL.gins 0 keyInt Y um264 ui3 O O O O ?_
 refine V0 (Yb zr282 pl282 O O) ?_
 refine WL.gins 0 keyInt Y um264 ui3 O O O O ?_
 refine V0 (Yb zr282 pl282 O O) ?_
 refine WL.gins 0 keyInt Y um264 ui3 O O O O ?_
 refine V0 (Yb zr282 pl282 O O) ?_
 refine WL.gins 0 keyInt Y um264 ui3 O O O O ?_
 refine V0 (Yb zr282 pl282 O O) ?_
 refine WL.gins 0 keyInt Y um264 ui3 O O O O ?_
 refine V0 (Yb zr282 pl282 O O) ?_
 refine WL.gins 0 keyInt Y um264 ui3 O O O O ?_
 refine V0 (Ym O) (V0 (Ya O) (Ln (Et (Crt ?_))))
 refine WE.retR (rs_1 O (rv_tmp O)) fun w' hw=>?_
 exact ⟨b1,O,hw⟩
theorem note1_any (vb be bs:Nat) (c:Cnt) (b:Bool) (w:World) (hb:c.tot≤4611686018427387904) (hw:Ws w [vb] [blk vb (.cells #[.int .i64 0,.int .i64 ((c).f:Int),.int .i64 ((c).m:Int),.int .i64 0,.int .i64 ((c).k:Int),.int .i64 0,.int .i64 0,.int .i64 0,.int .i64 0,.int .i64 0,.map (some be),.map (some bs)] 268 (0,0))] [] w) :
   Calls Tryz.prog 152 #[.pointer (some ⟨vb,0,none⟩),.bool b,.int .i64 1] w fun e w'=>e = .returned (.tuple #[])∧Ws w [vb] [blk vb (.cells #[.int .i64 0,.int .i64 ((c+noteF b).f:Int),.int .i64 ((c+noteF b).m:Int),.int .i64 0,.int .i64 ((c+noteF b).k:Int),.int .i64 0,.int .i64 0,.int .i64 0,.int .i64 0,.int .i64 0,.map (some be),.map (some bs)] 268 (0,0))] [] w':=by
 have hf:=tot_f c
 refine enter Tryz.func152 O 17 O O ?_
 refine CE hw ?_
 refine Cs (Cr (V0 (Ym O) (Ln (Et ?_))))
 refine Cc O (fun hc0=>?_) (fun hc0=>?_)
 ·
  subst hc0
  refine WC.draws1 0 [(0,true),(1,true),(2,true),(3,true),(4,true),(7,true),(8,true),(5,false),(6,true),(9,true),(10,false)] mixed (by kernel_rfl) (fun _ _ _ d _ h=>by cases d<;>exact h) ?_
  refine D0 O (Wp 0) (Ym O) (D0 O (Wp 0) (Ym O) (D0 O (Wp 0) (yl_nil O) (D0 O (Wp 0) (Yf fo268_0 O) ?_)))
  refine D0 O (Wp 0) (yl_iar (i:=1) ar266 O O (by decide)) ?_
  refine D0 O (Wp 0) (yl_nil O) (D0 O (Wp 0) (Yf fo268_0 O) ?_)
  refine De O (Wp 0) ?_
  refine V0 (Yd 0 O O O na3) (Ln (Ed ?_))
  refine D0 O (Wp 0) (Yi O O O (by omega)) ?_
  refine D0 O (Wp 0) (yl_iar (i:=1) ar266 O O (by decide)) ?_
  refine De O (Wp 0) ?_
  refine Lst 0 Y O O O sz3 O O O (Ln (Ed ?_))
  refine WD.nil (Wp 0) ?_
  refine E0 O fun w' hw=>?_
  exact ⟨O,hw⟩
 subst hc0
 refine Ck ?_
 refine E0 O fun w' hw=>?_
 exact ⟨O,hw⟩
theorem note2_any (vb be bs:Nat) (c:Cnt) (b:Bool) (w:World) (hb:c.tot≤4611686018427387904) (hw:Ws w [vb] [blk vb (.cells #[.int .i64 0,.int .i64 ((c).f:Int),.int .i64 ((c).m:Int),.int .i64 0,.int .i64 ((c).k:Int),.int .i64 0,.int .i64 0,.int .i64 0,.int .i64 0,.int .i64 0,.map (some be),.map (some bs)] 268 (0,0))] [] w) :
   Calls Tryz.prog 152 #[.pointer (some ⟨vb,0,none⟩),.bool b,.int .i64 2] w fun e w'=>e = .returned (.tuple #[])∧Ws w [vb] [blk vb (.cells #[.int .i64 0,.int .i64 ((c+noteM b).f:Int),.int .i64 ((c+noteM b).m:Int),.int .i64 0,.int .i64 ((c+noteM b).k:Int),.int .i64 0,.int .i64 0,.int .i64 0,.int .i64 0,.int .i64 0,.map (some be),.map (some bs)] 268 (0,0))] [] w':=by
 have hm:=tot_m c
 refine enter Tryz.func152 O 17 O O ?_
 refine CE hw ?_
 refine Cs (Cr (V0 (Ym O) (Ln (Et ?_))))
 refine Cc O (fun hc0=>?_) (fun hc0=>?_)
 ·
  subst hc0
  refine WC.draws1 0 [(0,true),(1,true),(2,true),(3,true),(4,true),(7,true),(8,true),(5,false),(6,true),(9,true),(10,false)] mixed (by kernel_rfl) (fun _ _ _ d _ h=>by cases d<;>exact h) ?_
  refine D0 O (Wp 0) (Ym O) (D0 O (Wp 0) (Ym O) (D0 O (Wp 0) (yl_nil O) (D0 O (Wp 0) (Yf fo268_0 O) ?_)))
  refine D0 O (Wp 0) (yl_iar (i:=2) ar266 O O (by decide)) ?_
  refine D0 O (Wp 0) (yl_nil O) (D0 O (Wp 0) (Yf fo268_0 O) ?_)
  refine De O (Wp 0) ?_
  refine V0 (Yd 0 O O O na3) (Ln (Ed ?_))
  refine D0 O (Wp 0) (Yi O O O (by omega)) ?_
  refine D0 O (Wp 0) (yl_iar (i:=2) ar266 O O (by decide)) ?_
  refine De O (Wp 0) ?_
  refine Lst 0 Y O O O sz3 O O O (Ln (Ed ?_))
  refine WD.nil (Wp 0) ?_
  refine E0 O fun w' hw=>?_
  exact ⟨O,hw⟩
 subst hc0
 refine Ck ?_
 refine E0 O fun w' hw=>?_
 exact ⟨O,hw⟩
theorem note4_any (vb be bs:Nat) (c:Cnt) (b:Bool) (w:World) (hb:c.tot≤4611686018427387904) (hw:Ws w [vb] [blk vb (.cells #[.int .i64 0,.int .i64 ((c).f:Int),.int .i64 ((c).m:Int),.int .i64 0,.int .i64 ((c).k:Int),.int .i64 0,.int .i64 0,.int .i64 0,.int .i64 0,.int .i64 0,.map (some be),.map (some bs)] 268 (0,0))] [] w) :
   Calls Tryz.prog 152 #[.pointer (some ⟨vb,0,none⟩),.bool b,.int .i64 4] w fun e w'=>e = .returned (.tuple #[])∧Ws w [vb] [blk vb (.cells #[.int .i64 0,.int .i64 ((c+noteK b).f:Int),.int .i64 ((c+noteK b).m:Int),.int .i64 0,.int .i64 ((c+noteK b).k:Int),.int .i64 0,.int .i64 0,.int .i64 0,.int .i64 0,.int .i64 0,.map (some be),.map (some bs)] 268 (0,0))] [] w':=by
 have hk:=tot_k c
 refine enter Tryz.func152 O 17 O O ?_
 refine CE hw ?_
 refine Cs (Cr (V0 (Ym O) (Ln (Et ?_))))
 refine Cc O (fun hc0=>?_) (fun hc0=>?_)
 ·
  subst hc0
  refine WC.draws1 0 [(0,true),(1,true),(2,true),(3,true),(4,true),(7,true),(8,true),(5,false),(6,true),(9,true),(10,false)] mixed (by kernel_rfl) (fun _ _ _ d _ h=>by cases d<;>exact h) ?_
  refine D0 O (Wp 0) (Ym O) (D0 O (Wp 0) (Ym O) (D0 O (Wp 0) (yl_nil O) (D0 O (Wp 0) (Yf fo268_0 O) ?_)))
  refine D0 O (Wp 0) (yl_iar (i:=4) ar266 O O (by decide)) ?_
  refine D0 O (Wp 0) (yl_nil O) (D0 O (Wp 0) (Yf fo268_0 O) ?_)
  refine De O (Wp 0) ?_
  refine V0 (Yd 0 O O O na3) (Ln (Ed ?_))
  refine D0 O (Wp 0) (Yi O O O (by omega)) ?_
  refine D0 O (Wp 0) (yl_iar (i:=4) ar266 O O (by decide)) ?_
  refine De O (Wp 0) ?_
  refine Lst 0 Y O O O sz3 O O O (Ln (Ed ?_))
  refine WD.nil (Wp 0) ?_
  refine E0 O fun w' hw=>?_
  exact ⟨O,hw⟩
 subst hc0
 refine Ck ?_
 refine E0 O fun w' hw=>?_
 exact ⟨O,hw⟩
theorem cntN_len:∀l:List Tx,(cntN l).tot≤l.length
 | []=>Nat.le_refl _
 | s::r=>by
   have:=cntN_len r; have:=noteF_tot (!nameT s)
   rw [show cntN (s::r)=noteF (!nameT s)+cntN r from rfl,Cnt.tot_add,List.length_cons]
   omega
theorem int_lt3 (n:Nat):decide ((3:Int)<(n:Int))=decide (3<n):=by rw [Bool.eq_iff_iff]; simp; omega
theorem cntE_eq (x:TExpr) (d:Nat):cntE x d=if 6<d then ⟨0,1,0⟩ else noteK (shE x.op).isNone+shapeC ((shE x.op).getD (false,0)) x.mod x.nm x.args.length+noteF (numBad x.op x.n)+cntEs x.args (d+1):=by
 cases x; rw [cntE]; rfl
theorem cntEs_app (d:Nat):∀a b:List TExpr,cntEs (a++b) d=cntEs a d+cntEs b d
 | [],b=>by apply Cnt.ext'<;>simp [Cnt.add_f,Cnt.add_m,Cnt.add_k,cntEs,c0]
 | x::a,b=>by
   rw [List.cons_append,show ∀q,cntEs (x::q) d=cntE x d+cntEs q d from fun q=>by rw [cntEs],cntEs_app d a b,show ∀q,cntEs (x::q) d=cntE x d+cntEs q d from fun q=>by rw [cntEs],Cnt.add_assoc']
theorem cntEs_take {l:List TExpr} {i:Nat} {x:TExpr} (d:Nat) (h:l[i]? = some x):cntEs (l.take (i+1)) d=cntEs (l.take i) d+cntE x d:=by
 rw [take_snoc h,cntEs_app,show cntEs [x] d=cntE x d+c0 by rw [cntEs,cntEs],add_c0]
theorem wEs_take:∀(l:List TExpr) (i:Nat),wEs (l.take i)≤wEs l
 | [],i=>by simp
 | x::r,0=>by simp [wEs]
 | x::r,i+1=>by have:=wEs_take r i; simp only [List.take_succ_cons,wEs]; omega
theorem wEs_upto {l:List TExpr} {i:Nat} {x:TExpr} (h:l[i]? = some x):wEs (l.take i)+wE x≤wEs l:=by
 have h2:=wEs_take l (i+1)
 rw [take_snoc h] at h2
 have:∀a b:List TExpr,wEs (a++b)=wEs a+wEs b:=by
   intro a b
   induction a with
   | nil=>simp [wEs]
   | cons y a ih=>simp only [List.cons_append,wEs,ih]; omega
 rw [this] at h2
 simp only [wEs] at h2
 omega
theorem cntS_eq (x:TStmt) (d:Nat):cntS x d=noteK (shS x.op).isNone+shapeC ((shS x.op).getD (false,0)) x.mod x.nm x.args.length+cntEs x.args 1+noteF (bodyBad x.op x.body.length x.other.length)
     + (if (inner x.op||decide (0<x.body.length))=true then cntB x.body (d+1) else c0)+(if 0<x.other.length then cntB x.other (d+1) else c0):=by
 cases x; rw [cntS]; rfl
theorem cntSs_app (d:Nat):∀a b:List TStmt,cntSs (a++b) d=cntSs a d+cntSs b d
 | [],b=>by apply Cnt.ext'<;>simp [Cnt.add_f,Cnt.add_m,Cnt.add_k,cntSs,c0]
 | x::a,b=>by
   rw [List.cons_append,show ∀q,cntSs (x::q) d=cntS x d+cntSs q d from fun q=>by rw [cntSs],cntSs_app d a b,show ∀q,cntSs (x::q) d=cntS x d+cntSs q d from fun q=>by rw [cntSs],Cnt.add_assoc']
theorem cntSs_take {l:List TStmt} {i:Nat} {x:TStmt} (d:Nat) (h:l[i]? = some x):cntSs (l.take (i+1)) d=cntSs (l.take i) d+cntS x d:=by
 rw [take_snoc h,cntSs_app,show cntSs [x] d=cntS x d+c0 by rw [cntSs,cntSs],add_c0]
theorem wSs_take:∀(l:List TStmt) (i:Nat),wSs (l.take i)≤wSs l
 | [],i=>by simp
 | x::r,0=>by simp [wSs]
 | x::r,i+1=>by have:=wSs_take r i; simp only [List.take_succ_cons,wSs]; omega
theorem wSs_upto {l:List TStmt} {i:Nat} {x:TStmt} (h:l[i]? = some x):wSs (l.take i)+wS x≤wSs l:=by
 have h2:=wSs_take l (i+1)
 rw [take_snoc h] at h2
 have:∀a b:List TStmt,wSs (a++b)=wSs a+wSs b:=by
   intro a b
   induction a with
   | nil=>simp [wSs]
   | cons y a ih=>simp only [List.cons_append,wSs,ih]; omega
 rw [this] at h2
 simp only [wSs] at h2
 omega
theorem en170:Enters Tryz.prog 170:=enters_of Tryz.func170 (by kernel_rfl) rfl
theorem en152:Enters Tryz.prog 152:=enters_of Tryz.func152 (by kernel_rfl) rfl
theorem fo217_1:fieldOff Tryz.prog 217 1=some 1:=by kernel_rfl
theorem en151:Enters Tryz.prog 151:=enters_of Tryz.func151 (by kernel_rfl) rfl
theorem fo217_0:fieldOff Tryz.prog 217 0=some 0:=by kernel_rfl
theorem fo217_3:fieldOff Tryz.prog 217 3=some 3:=by kernel_rfl
theorem fo282_0:fieldOff Tryz.prog 282 0=some 0:=by kernel_rfl
theorem na4:nonAgg Tryz.prog 4=true:=by kernel_rfl
theorem fo282_1:fieldOff Tryz.prog 282 1=some 1:=by kernel_rfl
theorem names_any (vb be bs:Nat) (H:View) (a:Option Addr) (n:Nat) (l:List Tx) (c:Cnt) (w:World) (hm:Sl rdStr 1 H a n l) (hb:c.tot+l.length≤4611686018427387904) (hw:Ws w [vb] [blk vb (.cells #[.int .i64 0,.int .i64 ((c).f:Int),.int .i64 ((c).m:Int),.int .i64 0,.int .i64 ((c).k:Int),.int .i64 0,.int .i64 0,.int .i64 0,.int .i64 0,.int .i64 0,.map (some be),.map (some bs)] 268 (0,0))] [H] w) :
   Calls Tryz.prog 151 #[.pointer (some ⟨vb,0,none⟩),.slice a l.length n] w fun e w'=>e = .returned (.tuple #[])∧Ws w [vb] [blk vb (.cells #[.int .i64 0,.int .i64 ((c+cntN l).f:Int),.int .i64 ((c+cntN l).m:Int),.int .i64 0,.int .i64 ((c+cntN l).k:Int),.int .i64 0,.int .i64 0,.int .i64 0,.int .i64 0,.int .i64 0,.map (some be),.map (some bs)] 268 (0,0))] [H] w':=by
 have hcap:=hm.cap
 have hmax:=hm.max
 refine enter Tryz.func151 O 18 O O ?_
 refine CE hw ?_
 refine Cs (Cr (V0 (Ym O) (V0 (Yn es22 O) (V0 (Ym O) (Ln (Et (Cb ?_)))))))
 refine CLk (ι:=Nat) (fun i=>[(8,.int .i64 (i:Int))]) [(0,_),(6,_),(7,_)] (fun i=>Ws w [vb] [blk vb (.cells #[.int .i64 0,.int .i64 ((c+cntN (l.take i)).f:Int),.int .i64 ((c+cntN (l.take i)).m:Int),.int .i64 0,.int .i64 ((c+cntN (l.take i)).k:Int),.int .i64 0,.int .i64 0,.int .i64 0,.int .i64 0,.int .i64 0,.map (some be),.map (some bs)] 268 (0,0))] [H]) (fun i=>i≤l.length) (fun i=>l.length-i) 0 (Nat.zero_le _) (sc O (sc O (sc O (sc O sn)))) (fun _ h=>h) ?_
 intro i hi
 refine Cs (Cr (V0 (yl_lt O O) (Ln (Et (Cs ?_)))))
 refine Cc O (fun hc0=>?_) (fun hc0=>?_)
 ·
  have hlt:i<l.length:=by simpa using hc0
  obtain ⟨x,hxi⟩:∃x,l[i]? = some x:=⟨_,List.getElem?_eq_getElem hlt⟩
  obtain ⟨pbx,pox,ha,hrow⟩:=hm.elt i x hxi
  have hrow:RdC H pbx (pox+i*1) (strC x):=hrow
  have e2:c+cntN (l.take i)+noteF (!nameT x)=c+cntN (l.take (i+1)):=by rw [cntN_take hxi,Cnt.add_assoc']
  have hbt:(c+cntN (l.take i)).tot≤4611686018427387904:=by
    rw [Cnt.tot_add]
    have:=cntN_len (l.take i)
    simp at this
    omega
  refine Ck (Et (Cs (Cb (Cs (Cr ?_)))))
  refine V0 (Yo es22 O O (by assumption) (by omega)) ?_
  refine V0 (yl_ld 0 na9 O O (hrow 0 _ O)) (V0 (Ya O) (Ln (Et (Cr (V0 (Ym O) (V0 (Ym O) ?_))))))
  refine Lp Y O en170 O (fun w hw=>treeName_any _ w) ?_
  refine V0 (yl_not O) (Lf 0 O ?_)
  refine Lw0 [_] _ [blk vb (.cells #[.int .i64 0,.int .i64 ((c+cntN (l.take i)+noteF (!nameT x)).f:Int),.int .i64 ((c+cntN (l.take i)+noteF (!nameT x)).m:Int),.int .i64 0,.int .i64 ((c+cntN (l.take i)+noteF (!nameT x)).k:Int),.int .i64 0,.int .i64 0,.int .i64 0,.int .i64 0,.int .i64 0,.map (some be),.map (some bs)] 268 (0,0))] Y O en152 O O [] (by simp) (fun w hw=>note1_any vb be bs (c+cntN (l.take i)) (!nameT x) w (hbt) hw) ?_
  refine Ln (Eb (Et (Cr ?_)))
  refine V0 (Yi O O O (by omega)) ?_
  refine V0 (Ym O) (Ln ?_)
  rw [e2]
  exact Ea (i+1) (by omega) (by omega) (sc O (sc O (sc O (sc O sn)))) (fun _ h=>h)
 have hge:¬i<l.length:=by simpa using hc0
 have hT:l.take i=l:=List.take_of_length_le (by omega)
 rw [hT]
 refine Ce (Ex (Ex (Ebh ?_)))
 refine E0 O fun w' hw=>?_
 exact ⟨O,hw⟩
theorem vdecl_any (vb be bs:Nat) (d:TDecl) (c:Cnt) (w:World) (hb:c.tot+4≤4611686018427387904) (hw:Ws w [vb] [blk vb (.cells #[.int .i64 0,.int .i64 ((c).f:Int),.int .i64 ((c).m:Int),.int .i64 0,.int .i64 ((c).k:Int),.int .i64 0,.int .i64 0,.int .i64 0,.int .i64 0,.int .i64 0,.map (some be),.map (some bs)] 268 (0,0))] [] w) :
   Calls Tryz.prog 153 #[.pointer (some ⟨vb,0,none⟩),.agg #[.int .i64 d.kind,st d.nm,.bool d.pub,.int .i64 d.n]] w fun e w'=>e = .returned (.tuple #[])∧Ws w [vb] [blk vb (.cells #[.int .i64 0,.int .i64 ((c+declC d).f:Int),.int .i64 ((c+declC d).m:Int),.int .i64 0,.int .i64 ((c+declC d).k:Int),.int .i64 0,.int .i64 0,.int .i64 0,.int .i64 0,.int .i64 0,.map (some be),.map (some bs)] 268 (0,0))] [] w':=by
 have hbt:(c+cntN [d.nm]).tot≤4611686018427387904:=by
   rw [Cnt.tot_add]
   have:=cntN_len [d.nm]
   simp at this
   omega
 refine enter Tryz.func153 O 44 O O ?_
 refine CE hw ?_
 refine Cs (Cr ?_)
 refine WL.box Y O O fun b3=>?_
 refine Ln (Et (Cs (Cr (V0 (Ym O) (V0 (Yf fo217_1 O) (V0 (Yd 0 O O O na9) ?_))))))
 refine Lb Y O el22 O O O O fun b7=>?_
 refine Lsv (T:=9) (m:=1) 0 [d.nm] O O (show 1≤1 by decide) (by decide) fun H7 hH7=>?_
 refine Lf 1 O ?_
 refine Lw0 [_] _ [blk vb (.cells #[.int .i64 0,.int .i64 ((c+cntN [d.nm]).f:Int),.int .i64 ((c+cntN [d.nm]).m:Int),.int .i64 0,.int .i64 ((c+cntN [d.nm]).k:Int),.int .i64 0,.int .i64 0,.int .i64 0,.int .i64 0,.int .i64 0,.map (some be),.map (some bs)] 268 (0,0))] Y O en151 O O [H7] (by simp) (fun w hw=>names_any vb be bs H7 _ _ [d.nm] (c) w hH7 (by show c.tot+1≤_; omega) hw) ?_
 refine Ln (Et (Cs (Cr (V0 (Yf fo217_0 O) (V0 (Yd 1 O O O na3) (Ln (Et (Cb (Cs (Cr (V0 (yl_eq O O) (V0 (Ya O) ?_))))))))))))
 refine Ln (Et ?_)
 refine Cc O (fun hc0=>?_) (fun hc0=>?_)
 ·
  have hk:d.kind=1:=by simpa using hc0
  have e2:∀b,(b=(decide (d.n<0)||decide (1099511627775<d.n)))→c+cntN [d.nm]+noteF b=c+declC d:=fun b hb=>by rw [hb,declC,if_pos hk,Cnt.add_assoc']
  refine Cr (V0 (Ym O) (V0 (Yf fo217_3 O) (V0 (Yd 1 O O O na3) (V0 (yl_lt O O) (V0 (Ym O) ?_)))))
  apply Lo 3 O O O O Y O O O O O
  ·
   intro hg0
   refine Vg (Yf fo217_3 O) (Vg (Yd 1 O O O na3) (Vg (yl_gt O O) ?_))
   exact Gt 3 O O O
  refine Lf 0 O ?_
  refine Lw0 [_] _ [blk vb (.cells #[.int .i64 0,.int .i64 ((c+cntN [d.nm]+noteF (decide (d.n<0)||decide (1099511627775<d.n))).f:Int),.int .i64 ((c+cntN [d.nm]+noteF (decide (d.n<0)||decide (1099511627775<d.n))).m:Int),.int .i64 0,.int .i64 ((c+cntN [d.nm]+noteF (decide (d.n<0)||decide (1099511627775<d.n))).k:Int),.int .i64 0,.int .i64 0,.int .i64 0,.int .i64 0,.int .i64 0,.map (some be),.map (some bs)] 268 (0,0))] Y O en152 O O [] (by simp) (fun w hw=>note1_any vb be bs (c+cntN [d.nm]) (decide (d.n<0)||decide (1099511627775<d.n)) w (hbt) hw) ?_
  refine Ln (Eb ?_)
  refine E0 O fun w' hw=>?_
  rw [e2 _ rfl] at hw
  exact ⟨O,Wv 1 (Wt 1 hw)⟩
 have hk:¬d.kind=1:=by simpa using hc0
 refine Cs (Cr (V0 (yl_eq O O) (V0 (Ya O) (Ln (Et ?_)))))
 refine Cc O (fun hc1=>?_) (fun hc1=>?_)
 ·
  have hk2:d.kind=2:=by simpa using hc1
  have e2:∀b,(b=(!(d.n==0)))→c+cntN [d.nm]+noteF b=c+declC d:=fun b hb=>by rw [hb,declC,if_neg hk,if_pos hk2,Cnt.add_assoc']
  refine Cr (V0 (Ym O) (V0 (Yf fo217_3 O) (V0 (Yd 1 O O O na3) (V0 (yl_ne O O) (Lf 0 O ?_)))))
  refine Lw0 [_] _ [blk vb (.cells #[.int .i64 0,.int .i64 ((c+cntN [d.nm]+noteF (!(d.n==0))).f:Int),.int .i64 ((c+cntN [d.nm]+noteF (!(d.n==0))).m:Int),.int .i64 0,.int .i64 ((c+cntN [d.nm]+noteF (!(d.n==0))).k:Int),.int .i64 0,.int .i64 0,.int .i64 0,.int .i64 0,.int .i64 0,.map (some be),.map (some bs)] 268 (0,0))] Y O en152 O O [] (by simp) (fun w hw=>note1_any vb be bs (c+cntN [d.nm]) (!(d.n==0)) w (hbt) hw) ?_
  refine Ln (Eb ?_)
  refine E0 O fun w' hw=>?_
  rw [e2 _ rfl] at hw
  exact ⟨O,Wv 1 (Wt 1 hw)⟩
 have hk2:¬d.kind=2:=by simpa using hc1
 refine Cs (Cr (V0 (yl_eq O O) (V0 (Ya O) (Ln (Et ?_)))))
 refine Cc O (fun hc2=>?_) (fun hc2=>?_)
 ·
  have hk3:d.kind=3:=by simpa using hc2
  have e2:∀b,(b=(decide (d.n<1)||decide (32<d.n)))→c+cntN [d.nm]+noteF b=c+declC d:=fun b hb=>by rw [hb,declC,if_neg hk,if_neg hk2,if_pos hk3,Cnt.add_assoc']
  refine Cr (V0 (Ym O) (V0 (Yf fo217_3 O) (V0 (Yd 1 O O O na3) (V0 (yl_lt O O) (V0 (Ym O) ?_)))))
  apply Lo 3 O O O O Y O O O O O
  ·
   intro hg1
   refine Vg (Yf fo217_3 O) (Vg (Yd 1 O O O na3) (Vg (yl_gt O O) ?_))
   exact Gt 3 O O O
  refine Lf 0 O ?_
  refine Lw0 [_] _ [blk vb (.cells #[.int .i64 0,.int .i64 ((c+cntN [d.nm]+noteF (decide (d.n<1)||decide (32<d.n))).f:Int),.int .i64 ((c+cntN [d.nm]+noteF (decide (d.n<1)||decide (32<d.n))).m:Int),.int .i64 0,.int .i64 ((c+cntN [d.nm]+noteF (decide (d.n<1)||decide (32<d.n))).k:Int),.int .i64 0,.int .i64 0,.int .i64 0,.int .i64 0,.int .i64 0,.map (some be),.map (some bs)] 268 (0,0))] Y O en152 O O [] (by simp) (fun w hw=>note1_any vb be bs (c+cntN [d.nm]) (decide (d.n<1)||decide (32<d.n)) w (hbt) hw) ?_
  refine Ln (Eb ?_)
  refine E0 O fun w' hw=>?_
  rw [e2 _ rfl] at hw
  exact ⟨O,Wv 1 (Wt 1 hw)⟩
 have hk3:¬d.kind=3:=by simpa using hc2
 have e2:∀b,(b=true)→c+cntN [d.nm]+noteK b=c+declC d:=fun b hb=>by rw [hb,declC,if_neg hk,if_neg hk2,if_neg hk3,Cnt.add_assoc']
 refine Cr (V0 (Ym O) (Lf 0 O ?_))
 refine Lw0 [_] _ [blk vb (.cells #[.int .i64 0,.int .i64 ((c+cntN [d.nm]+noteK (true)).f:Int),.int .i64 ((c+cntN [d.nm]+noteK (true)).m:Int),.int .i64 0,.int .i64 ((c+cntN [d.nm]+noteK (true)).k:Int),.int .i64 0,.int .i64 0,.int .i64 0,.int .i64 0,.int .i64 0,.map (some be),.map (some bs)] 268 (0,0))] Y O en152 O O [] (by simp) (fun w hw=>note4_any vb be bs (c+cntN [d.nm]) (true) w (hbt) hw) ?_
 refine Ln (Eb ?_)
 refine E0 O fun w' hw=>?_
 rw [e2 _ rfl] at hw
 exact ⟨O,Wv 1 (Wt 1 hw)⟩
theorem vshape_any (vb be bs:Nat) (r:Bool) (a:Int) (mod nm:Tx) (len:Nat) (c:Cnt) (w:World) (hb:c.tot+4≤4611686018427387904) (hl:mod.length+nm.length≤9223372036854775807) (hw:Ws w [vb] [blk vb (.cells #[.int .i64 0,.int .i64 ((c).f:Int),.int .i64 ((c).m:Int),.int .i64 0,.int .i64 ((c).k:Int),.int .i64 0,.int .i64 0,.int .i64 0,.int .i64 0,.int .i64 0,.map (some be),.map (some bs)] 268 (0,0))] [] w) :
   Calls Tryz.prog 173 #[.pointer (some ⟨vb,0,none⟩),.agg #[.bool r,.int .i64 a],st mod,st nm,.int .i64 (len:Int)] w fun e w'=>e = .returned (.tuple #[])∧Ws w [vb] [blk vb (.cells #[.int .i64 0,.int .i64 ((c+shapeC (r,a) mod nm len).f:Int),.int .i64 ((c+shapeC (r,a) mod nm len).m:Int),.int .i64 0,.int .i64 ((c+shapeC (r,a) mod nm len).k:Int),.int .i64 0,.int .i64 0,.int .i64 0,.int .i64 0,.int .i64 0,.map (some be),.map (some bs)] 268 (0,0))] [] w':=by
 have h1:(c+noteF (badName r mod nm)).tot≤4611686018427387904:=by rw [Cnt.tot_add]; have:=noteF_tot (badName r mod nm); omega
 have h2:(c+noteF (badName r mod nm)+noteF (badArgs a len)).tot≤4611686018427387904:=by rw [Cnt.tot_add,Cnt.tot_add]; have:=noteF_tot (badName r mod nm); have:=noteF_tot (badArgs a len); omega
 have e3:c+noteF (badName r mod nm)+noteF (badArgs a len)+noteM (decide (3<len))=c+shapeC (r,a) mod nm len:=by rw [shapeC,Cnt.add_assoc',Cnt.add_assoc',Cnt.add_assoc']
 refine enter Tryz.func173 O 54 O O ?_
 refine CE hw ?_
 refine Cs (Cr ?_)
 refine WL.box Y O O fun b6=>?_
 refine Ln (Et (Cs (Cr (V0 (Ym O) (V0 (Yf fo282_0 O) (V0 (Yd 0 O O O na4) (V0 (Ym O) ?_)))))))
 apply La 12 O O O O Y O O O O O
 ·
  intro hg0
  refine Vg (Ym O) (Vg (yl_nes O O) (Vg (Ym O) ?_))
  apply La 3 O O O O (.g O O O) O O O O O
  ·
   intro hg1
   refine Vg (Ym O) ?_
   refine Lp (.g O O O) O en170 O (fun w hw=>treeName_any _ w) ?_
   refine Vg (yl_not O) ?_
   exact Gt 3 O O O
  refine Vg (Ym O) ?_
  apply Lo 3 O O O O (.g O O O) O O O O O
  ·
   intro hg2
   refine Vg (Ym O) ?_
   refine Lp (.g O O O) O en170 O (fun w hw=>treeName_any _ w) ?_
   refine Vg (yl_not O) ?_
   exact Gt 3 O O O
  exact Gt 6 O O O
 refine V0 (Ym O) ?_
 apply Lo 9 O O O O Y O O O O O
 ·
  intro hg3
  refine Vg (Yf fo282_0 O) (Vg (Yd 0 O O O na4) (Vg (yl_not O) (Vg (Ym O) ?_)))
  apply La 4 O O O O (.g O O O) O O O O O
  ·
   intro hg4
   refine Vg (Ym O) (Vg (Ym O) (Vg (yl_cats O O hl) (Vg (yl_nes O O) ?_)))
   exact Gt 4 O O O
  exact Gt 5 O O O
 refine Lf 1 O ?_
 refine Lw0 [_] _ [blk vb (.cells #[.int .i64 0,.int .i64 ((c+noteF (badName r mod nm)).f:Int),.int .i64 ((c+noteF (badName r mod nm)).m:Int),.int .i64 0,.int .i64 ((c+noteF (badName r mod nm)).k:Int),.int .i64 0,.int .i64 0,.int .i64 0,.int .i64 0,.int .i64 0,.map (some be),.map (some bs)] 268 (0,0))] Y O en152 O O [] (by simp) (fun w hw=>note1_any vb be bs (c) (badName r mod nm) w (by omega) hw) ?_
 refine Ln (Et (Cs (Cr (V0 (Ym O) (V0 (Yf fo282_1 O) (V0 (Yd 1 O O O na3) (V0 (yl_ge O O) (V0 (Ym O) ?_))))))))
 apply La 4 O O O O Y O O O O O
 ·
  intro hg5
  refine Vg (Ym O) (Vg (Yf fo282_1 O) (Vg (Yd 1 O O O na3) (Vg (yl_ne O O) ?_)))
  exact Gt 4 O O O
 refine Lf 0 O ?_
 refine Lw0 [_] _ [blk vb (.cells #[.int .i64 0,.int .i64 ((c+noteF (badName r mod nm)+noteF (badArgs a len)).f:Int),.int .i64 ((c+noteF (badName r mod nm)+noteF (badArgs a len)).m:Int),.int .i64 0,.int .i64 ((c+noteF (badName r mod nm)+noteF (badArgs a len)).k:Int),.int .i64 0,.int .i64 0,.int .i64 0,.int .i64 0,.int .i64 0,.map (some be),.map (some bs)] 268 (0,0))] Y O en152 O O [] (by simp) (fun w hw=>note1_any vb be bs (c+noteF (badName r mod nm)) (badArgs a len) w (h1) hw) ?_
 refine Ln (Et (Cr (V0 (Ym O) (V0 (Ym O) (V0 (yl_gt O O) ?_)))))
 rw [int_lt3]
 refine Lf 0 O ?_
 refine Lw0 [_] _ [blk vb (.cells #[.int .i64 0,.int .i64 ((c+noteF (badName r mod nm)+noteF (badArgs a len)+noteM (decide (3<len))).f:Int),.int .i64 ((c+noteF (badName r mod nm)+noteF (badArgs a len)+noteM (decide (3<len))).m:Int),.int .i64 0,.int .i64 ((c+noteF (badName r mod nm)+noteF (badArgs a len)+noteM (decide (3<len))).k:Int),.int .i64 0,.int .i64 0,.int .i64 0,.int .i64 0,.int .i64 0,.map (some be),.map (some bs)] 268 (0,0))] Y O en152 O O [] (by simp) (fun w hw=>note2_any vb be bs (c+noteF (badName r mod nm)+noteF (badArgs a len)) (decide (3<len)) w (h2) hw) ?_
 refine Ln ?_
 refine E0 O fun w' hw=>?_
 rw [e3] at hw
 exact ⟨O,Wt 1 hw⟩
theorem fo268_1:fieldOff Tryz.prog 268 1=some 10:=by kernel_rfl
theorem na264:nonAgg Tryz.prog 264=true:=by kernel_rfl
theorem fo220_0:fieldOff Tryz.prog 220 0=some 0:=by kernel_rfl
theorem sz282:sizeP Tryz.prog 282=some 2:=by kernel_rfl
theorem ag282:aggOf Tryz.prog 282=some 2:=by kernel_rfl
theorem fo220_2:fieldOff Tryz.prog 220 2=some 2:=by kernel_rfl
theorem fo220_3:fieldOff Tryz.prog 220 3=some 3:=by kernel_rfl
theorem fo220_4:fieldOff Tryz.prog 220 4=some 4:=by kernel_rfl
theorem na218:nonAgg Tryz.prog 218=true:=by kernel_rfl
theorem es218:elemSz Tryz.prog 218=some 5:=by kernel_rfl
theorem en173:Enters Tryz.prog 173:=enters_of Tryz.func173 (by kernel_rfl) rfl
theorem fo220_1:fieldOff Tryz.prog 220 1=some 1:=by kernel_rfl
theorem ag220:aggOf Tryz.prog 220=some 5:=by kernel_rfl
theorem zr220:zeroOf Tryz.prog 220=some (.agg #[.int .i64 0,.int .i64 0,st [],st [],.slice none 0 0]):=by kernel_rfl
theorem sz220:sizeP Tryz.prog 220=some 5:=by kernel_rfl
theorem en174:Enters Tryz.prog 174:=enters_of Tryz.func174 (by kernel_rfl) rfl
theorem vexpr_any (vb be bs:Nat) (H:View) (k:Nat) (x:TExpr) (a:Option Addr) (n:Nat) (d:Nat) (c:Cnt) (w:World) (hm:Sl (RdE k) 5 H a n x.args) (hb:c.tot+8*wE x≤1152921504606846976) (hw:Ws w [vb,be,bs] [blk vb (.cells #[.int .i64 0,.int .i64 ((c).f:Int),.int .i64 ((c).m:Int),.int .i64 0,.int .i64 ((c).k:Int),.int .i64 0,.int .i64 0,.int .i64 0,.int .i64 0,.int .i64 0,.map (some be),.map (some bs)] 268 (0,0)),blk be (gobj kI (exprsK 9) 15),blk bs (gobj kI stmtsK 7)] [H] w) :
   Calls Tryz.prog 174 #[.pointer (some ⟨vb,0,none⟩),.agg #[.int .i64 x.op,.int .i64 x.n,st x.mod,st x.nm,.slice a x.args.length n],.int .i64 (d:Int)] w fun e w'=>e = .returned (.tuple #[])∧Ws w [vb,be,bs] [blk vb (.cells #[.int .i64 0,.int .i64 ((c+cntE x d).f:Int),.int .i64 ((c+cntE x d).m:Int),.int .i64 0,.int .i64 ((c+cntE x d).k:Int),.int .i64 0,.int .i64 0,.int .i64 0,.int .i64 0,.int .i64 0,.map (some be),.map (some bs)] 268 (0,0)),blk be (gobj kI (exprsK 9) 15),blk bs (gobj kI stmtsK 7)] [H] w':=by
 induction k using Nat.strongRecOn generalizing x a n d c w
 rename_i k ih
 have hcap:=hm.cap
 have hmax:=hm.max
 have hw8:=wE_eq x
 have hge:gget x.op (exprsK 9) (.agg #[.bool false,.int .i64 0]) = .agg #[.bool ((shE x.op).getD (false,0)).1,.int .i64 ((shE x.op).getD (false,0)).2]:=(exprs_get x.op).1
 have hgh:=(exprs_get x.op).2
 have t1:=noteK_tot (shE x.op).isNone
 have t2:=shapeC_tot ((shE x.op).getD (false,0)) x.mod x.nm x.args.length
 have t3:=noteF_tot (numBad x.op x.n)
 refine enter Tryz.func174 O 76 O O ?_
 refine CE hw ?_
 refine Cs (Cr ?_)
 refine WL.box Y O O fun b4=>?_
 refine Ln (Et (Cs (Cs (Cr (V0 (Ym O) (V0 (yl_gt O O) (Ln (Et ?_))))))))
 refine Cc O (fun hc0=>?_) (fun hc0=>?_)
 ·
  have hd:6<d:=by simp at hc0; omega
  refine Cs (Cr (V0 (Ym O) (Lf 1 O ?_)))
  refine Lw0 [_] _ [blk vb (.cells #[.int .i64 0,.int .i64 ((c+noteM (true)).f:Int),.int .i64 ((c+noteM (true)).m:Int),.int .i64 0,.int .i64 ((c+noteM (true)).k:Int),.int .i64 0,.int .i64 0,.int .i64 0,.int .i64 0,.int .i64 0,.map (some be),.map (some bs)] 268 (0,0))] Y O en152 O O [] (by simp) (fun w hw=>note2_any vb be bs (c) (true) w (by omega) hw) ?_
  refine Ln (Et (Crt (Er ?_)))
  refine WE.ret0 O fun w' hw=>?_
  rw [show c+cntE x d=c+noteM true by rw [cntE_eq,if_pos hd]; rfl]
  exact ⟨O,(by have h:=hw; have h:=h.fronti 3 O; have h:=h.fronti 3 O; have h:=h.fronti 2 O; exact Wt 3 h)⟩
 have hd:¬6<d:=by simp at hc0; omega
 have hE:c+cntE x d=c+noteK (shE x.op).isNone+shapeC ((shE x.op).getD (false,0)) x.mod x.nm x.args.length+noteF (numBad x.op x.n)+cntEs x.args (d+1):=by rw [cntE_eq,if_neg hd,Cnt.add_assoc',Cnt.add_assoc',Cnt.add_assoc',Cnt.add_assoc',Cnt.add_assoc']
 have hT1:(c+noteK (shE x.op).isNone).tot≤1152921504606846980:=by rw [Cnt.tot_add]; omega
 have hT2:(c+noteK (shE x.op).isNone+shapeC ((shE x.op).getD (false,0)) x.mod x.nm x.args.length).tot≤1152921504606846990:=by rw [Cnt.tot_add,Cnt.tot_add]; omega
 refine Ck (Et (Cs ?_))
 refine WC.draws0 [(0,true),(1,true),(2,true),(3,true),(4,true),(5,true),(6,true),(7,true),(8,true),(9,true),(10,false),(11,false),(12,false)] mixed (by kernel_rfl) (fun _ _ _ d _ h=>by cases d<;>exact h) ?_
 refine D0 O (fun _ h=>h) (Ym O) (D0 O (fun _ h=>h) (yl_nil O) (D0 O (fun _ h=>h) (Yf fo268_1 O) (D0 O (fun _ h=>h) (Yd 1 O O O na264) (D0 O (fun _ h=>h) (Yf fo220_0 O) (D0 O (fun _ h=>h) (Yd 0 O O O na3) ?_)))))
 refine D0 O (fun _ h=>h) (yl_glook2 2 keyInt um264 ui3 zr282 O O O) ?_
 rw [hge,hgh]
 refine D0 O (fun _ h=>h) (Ym O) (D0 O (fun _ h=>h) (Yx O O) (D0 O (fun _ h=>h) (Yx O O) ?_))
 refine De O (fun _ h=>h) ?_
 refine Al Y O zr282 fun b6=>?_
 refine Ln (Ed ?_)
 refine De O (fun _ h=>(Wd 1 h:)) ?_
 refine Lst 0 Y O O O sz282 O O O (Ln (Ed ?_))
 refine De O (fun _ h=>(Wd 1 h:)) ?_
 refine V0 (Ya O) (Ln (Ed ?_))
 refine WD.nil (fun _ h=>(Wd 1 h:)) ?_
 refine Et (Cs (Cr (V0 (Ym O) (V0 (Ym O) (V0 (yl_not O) ?_)))))
 rw [Bool.not_not]
 refine Lf 2 O ?_
 refine Lw0 [_] _ [blk vb (.cells #[.int .i64 0,.int .i64 ((c+noteK ((shE x.op).isNone)).f:Int),.int .i64 ((c+noteK ((shE x.op).isNone)).m:Int),.int .i64 0,.int .i64 ((c+noteK ((shE x.op).isNone)).k:Int),.int .i64 0,.int .i64 0,.int .i64 0,.int .i64 0,.int .i64 0,.map (some be),.map (some bs)] 268 (0,0))] Y O en152 O O [] (by simp) (fun w hw=>note4_any vb be bs (c) ((shE x.op).isNone) w (by omega) hw) ?_
 refine Ln (Et (Cs (Cr (V0 (Ym O) (V0 (Yda 1 O O ag282 O) (V0 (Yf fo220_2 O) (V0 (Yd 2 O O O na9) (V0 (Yf fo220_3 O) ?_))))))))
 refine V0 (Yd 2 O O O na9) (V0 (Yf fo220_4 O) (V0 (Yd 2 O O O na218) (V0 (Yn es218 O) (Lf 0 O ?_))))
 refine Lw0 [_] _ [blk vb (.cells #[.int .i64 0,.int .i64 ((c+noteK (shE x.op).isNone+shapeC ((shE x.op).getD (false,0)) x.mod x.nm x.args.length).f:Int),.int .i64 ((c+noteK (shE x.op).isNone+shapeC ((shE x.op).getD (false,0)) x.mod x.nm x.args.length).m:Int),.int .i64 0,.int .i64 ((c+noteK (shE x.op).isNone+shapeC ((shE x.op).getD (false,0)) x.mod x.nm x.args.length).k:Int),.int .i64 0,.int .i64 0,.int .i64 0,.int .i64 0,.int .i64 0,.map (some be),.map (some bs)] 268 (0,0))] Y O en173 O O [] (by simp) (fun w hw=>vshape_any vb be bs ((shE x.op).getD (false,0)).1 ((shE x.op).getD (false,0)).2 x.mod x.nm x.args.length (c+noteK (shE x.op).isNone) w (by omega) (by omega) hw) ?_
 refine Ln (Et (Cs (Cr (V0 (Ym O) (V0 (Yf fo220_0 O) (V0 (Yd 2 O O O na3) (V0 (yl_eq O O) (V0 (Ym O) ?_))))))))
 apply La 8 O O O O Y O O O O O
 ·
  intro hg0
  refine Vg (Yf fo220_1 O) (Vg (Yd 2 O O O na3) (Vg (yl_lt O O) (Vg (Ym O) ?_)))
  apply Lo 3 O O O O (.g O O O) O O O O O
  ·
   intro hg1
   refine Vg (Yf fo220_1 O) (Vg (Yd 2 O O O na3) (Vg (yl_gt O O) ?_))
   exact Gt 3 O O O
  exact Gt 5 O O O
 refine V0 (Ym O) ?_
 apply Lo 8 O O O O Y O O O O O
 ·
  intro hg2
  refine Vg (Yf fo220_0 O) (Vg (Yd 2 O O O na3) (Vg (yl_ne O O) (Vg (Ym O) ?_)))
  apply La 3 O O O O (.g O O O) O O O O O
  ·
   intro hg3
   refine Vg (Yf fo220_1 O) (Vg (Yd 2 O O O na3) (Vg (yl_ne O O) ?_))
   exact Gt 3 O O O
  exact Gt 5 O O O
 refine Lf 0 O ?_
 refine Lw0 [_] _ [blk vb (.cells #[.int .i64 0,.int .i64 ((c+noteK (shE x.op).isNone+shapeC ((shE x.op).getD (false,0)) x.mod x.nm x.args.length+noteF (numBad x.op x.n)).f:Int),.int .i64 ((c+noteK (shE x.op).isNone+shapeC ((shE x.op).getD (false,0)) x.mod x.nm x.args.length+noteF (numBad x.op x.n)).m:Int),.int .i64 0,.int .i64 ((c+noteK (shE x.op).isNone+shapeC ((shE x.op).getD (false,0)) x.mod x.nm x.args.length+noteF (numBad x.op x.n)).k:Int),.int .i64 0,.int .i64 0,.int .i64 0,.int .i64 0,.int .i64 0,.map (some be),.map (some bs)] 268 (0,0))] Y O en152 O O [] (by simp) (fun w hw=>note1_any vb be bs (c+noteK (shE x.op).isNone+shapeC ((shE x.op).getD (false,0)) x.mod x.nm x.args.length) (numBad x.op x.n) w (by omega) hw) ?_
 refine Ln (Et (Cs (Cr (V0 (Yf fo220_4 O) (V0 (Yd 2 O O O na218) (V0 (Yn es218 O) (V0 (Ym O) (Ln (Et (Cb ?_))))))))))
 refine CLk (ι:=Nat) (fun i=>[(66,.int .i64 (i:Int))]) [(0,_),(2,_),(64,_),(65,_)] (fun i=>Ws w [vb,be,bs] [blk vb (.cells #[.int .i64 0,.int .i64 ((c+noteK (shE x.op).isNone+shapeC ((shE x.op).getD (false,0)) x.mod x.nm x.args.length+noteF (numBad x.op x.n)+cntEs (x.args.take i) (d+1)).f:Int),.int .i64 ((c+noteK (shE x.op).isNone+shapeC ((shE x.op).getD (false,0)) x.mod x.nm x.args.length+noteF (numBad x.op x.n)+cntEs (x.args.take i) (d+1)).m:Int),.int .i64 0,.int .i64 ((c+noteK (shE x.op).isNone+shapeC ((shE x.op).getD (false,0)) x.mod x.nm x.args.length+noteF (numBad x.op x.n)+cntEs (x.args.take i) (d+1)).k:Int),.int .i64 0,.int .i64 0,.int .i64 0,.int .i64 0,.int .i64 0,.map (some be),.map (some bs)] 268 (0,0)),blk be (gobj kI (exprsK 9) 15),blk bs (gobj kI stmtsK 7)] [H]) (fun i=>i≤x.args.length) (fun i=>x.args.length-i) 0 (Nat.zero_le _) (sc O (sc O (sc O (sc O (sc O sn))))) (fun _ h=>(Wt 3 (((h.f 4 O).f 4 O).f 2 O):)) ?_
 intro i hi
 refine Cs (Cr (V0 (yl_lt O O) (Ln (Et (Cs ?_)))))
 refine Cc O (fun hc1=>?_) (fun hc1=>?_)
 ·
  have hlt:i<x.args.length:=by simpa using hc1
  obtain ⟨y,hyi⟩:∃q,x.args[i]? = some q:=⟨_,List.getElem?_eq_getElem hlt⟩
  obtain ⟨pby,poy,hay,hry⟩:=hm.elt i y hyi
  obtain ⟨k',rfl⟩:∃k',k=k'+1:=by
    cases k with
    | zero=>exact hry.elim
    | succ k'=>exact ⟨k',rfl⟩
  obtain ⟨ya,yn,hrow,hsub⟩:=hry
  have hup:=wEs_upto hyi
  have hle:=cntEs_le (x.args.take i) (d+1)
  have hbi:(c+noteK (shE x.op).isNone+shapeC ((shE x.op).getD (false,0)) x.mod x.nm x.args.length+noteF (numBad x.op x.n)+cntEs (x.args.take i) (d+1)).tot+8*wE y≤1152921504606846976:=by rw [Cnt.tot_add,Cnt.tot_add,Cnt.tot_add,Cnt.tot_add]; omega
  have e2:c+noteK (shE x.op).isNone+shapeC ((shE x.op).getD (false,0)) x.mod x.nm x.args.length+noteF (numBad x.op x.n)+cntEs (x.args.take i) (d+1)+cntE y (d+1)=c+noteK (shE x.op).isNone+shapeC ((shE x.op).getD (false,0)) x.mod x.nm x.args.length+noteF (numBad x.op x.n)+cntEs (x.args.take (i+1)) (d+1):=by rw [cntEs_take (d+1) hyi,←Cnt.add_assoc']
  refine Ck (Et (Cs (Cb (Cs (Cr ?_)))))
  refine V0 (Yo es218 O O hay (by omega)) ?_
  refine V0 (yl_lda 0 ag220 O O O (hrow)) ?_
  refine Al Y O zr220 fun b9=>?_
  refine Lst 0 Y O O O sz220 O O O (Ln (Et (Cr (V0 (Ym O) (V0 (Yda 0 O O ag220 O) (V0 (Ym O) ?_))))))
  refine V0 (Yi O O O (by omega)) ?_
  refine Lf 3 O (Lf 3 O (Lf 3 O ?_))
  refine Lw0 [_,_,_] _ [blk vb (.cells #[.int .i64 0,.int .i64 ((c+noteK (shE x.op).isNone+shapeC ((shE x.op).getD (false,0)) x.mod x.nm x.args.length+noteF (numBad x.op x.n)+cntEs (x.args.take i) (d+1)+cntE y (d+1)).f:Int),.int .i64 ((c+noteK (shE x.op).isNone+shapeC ((shE x.op).getD (false,0)) x.mod x.nm x.args.length+noteF (numBad x.op x.n)+cntEs (x.args.take i) (d+1)+cntE y (d+1)).m:Int),.int .i64 0,.int .i64 ((c+noteK (shE x.op).isNone+shapeC ((shE x.op).getD (false,0)) x.mod x.nm x.args.length+noteF (numBad x.op x.n)+cntEs (x.args.take i) (d+1)+cntE y (d+1)).k:Int),.int .i64 0,.int .i64 0,.int .i64 0,.int .i64 0,.int .i64 0,.map (some be),.map (some bs)] 268 (0,0)),blk be (gobj kI (exprsK 9) 15),blk bs (gobj kI stmtsK 7)] Y O en174 O O [H] (by simp) (fun w hw=>by
      have:=ih k' (by omega) y ya yn (d+1) (c+noteK (shE x.op).isNone+shapeC ((shE x.op).getD (false,0)) x.mod x.nm x.args.length+noteF (numBad x.op x.n)+cntEs (x.args.take i) (d+1)) w hsub hbi hw
      exact this) ?_
  refine Ln (Eb (Et (Cr ?_)))
  refine V0 (Yi O O O (by omega)) ?_
  refine V0 (Ym O) (Ln ?_)
  rw [e2]
  exact Ea (i+1) (by omega) (by omega) (sc O (sc O (sc O (sc O (sc O sn))))) (fun _ h=>(Wt 3 (((h.f 2 O).f 2 O).f 2 O):))
 have hge2:¬i<x.args.length:=by simpa using hc1
 rw [List.take_of_length_le (by omega),←hE]
 refine Ce (Ex (Ex (Ebh ?_)))
 refine E0 O fun w' hw=>?_
 exact ⟨O,hw⟩
theorem c0_add (c:Cnt):c0+c=c:=by apply Cnt.ext'<;>simp [Cnt.add_f,Cnt.add_m,Cnt.add_k,c0]
theorem int_lt0 (n:Nat):decide ((0:Int)<(n:Int))=decide (0<n):=by rw [Bool.eq_iff_iff]; simp
theorem int_lt10 (n:Nat):decide ((10:Int)<(n:Int))=decide (10<n):=by rw [Bool.eq_iff_iff]; simp; omega
theorem cntB_eq {l:List TStmt} {d:Nat} (h:¬6<d):cntB l d=noteM (decide (10<l.length))+cntSs l d:=by rw [cntB,blkC,if_neg h]
theorem es172:elemSz Tryz.prog 172=some 6:=by kernel_rfl
theorem ag222:aggOf Tryz.prog 222=some 6:=by kernel_rfl
theorem zr222:zeroOf Tryz.prog 222=some (.agg #[.int .i64 0,st [],st [],.slice none 0 0,.slice none 0 0,.slice none 0 0]):=by kernel_rfl
theorem sz222:sizeP Tryz.prog 222=some 6:=by kernel_rfl
theorem fo268_2:fieldOff Tryz.prog 268 2=some 11:=by kernel_rfl
theorem fo222_0:fieldOff Tryz.prog 222 0=some 0:=by kernel_rfl
theorem fo222_1:fieldOff Tryz.prog 222 1=some 1:=by kernel_rfl
theorem fo222_2:fieldOff Tryz.prog 222 2=some 2:=by kernel_rfl
theorem fo222_3:fieldOff Tryz.prog 222 3=some 3:=by kernel_rfl
theorem fo222_4:fieldOff Tryz.prog 222 4=some 4:=by kernel_rfl
theorem na172:nonAgg Tryz.prog 172=true:=by kernel_rfl
theorem fo222_5:fieldOff Tryz.prog 222 5=some 5:=by kernel_rfl
theorem en154:Enters Tryz.prog 154:=enters_of Tryz.func154 (by kernel_rfl) rfl
theorem vblock_any (vb be bs:Nat) (H:View) (ke k:Nat) (l:List TStmt) (a:Option Addr) (n:Nat) (d:Nat) (c:Cnt) (w:World) (hm:Sl (RdS ke k) 6 H a n l) (hb:c.tot+2+8*wSs l≤1152921504606846976) (hw:Ws w [vb,be,bs] [blk vb (.cells #[.int .i64 0,.int .i64 ((c).f:Int),.int .i64 ((c).m:Int),.int .i64 0,.int .i64 ((c).k:Int),.int .i64 0,.int .i64 0,.int .i64 0,.int .i64 0,.int .i64 0,.map (some be),.map (some bs)] 268 (0,0)),blk be (gobj kI (exprsK 9) 15),blk bs (gobj kI stmtsK 7)] [H] w) :
   Calls Tryz.prog 154 #[.pointer (some ⟨vb,0,none⟩),.slice a l.length n,.int .i64 (d:Int)] w fun e w'=>e = .returned (.tuple #[])∧Ws w [vb,be,bs] [blk vb (.cells #[.int .i64 0,.int .i64 ((c+cntB l d).f:Int),.int .i64 ((c+cntB l d).m:Int),.int .i64 0,.int .i64 ((c+cntB l d).k:Int),.int .i64 0,.int .i64 0,.int .i64 0,.int .i64 0,.int .i64 0,.map (some be),.map (some bs)] 268 (0,0)),blk be (gobj kI (exprsK 9) 15),blk bs (gobj kI stmtsK 7)] [H] w':=by
 induction k using Nat.strongRecOn generalizing l a n d c w
 rename_i k ih
 have hcap:=hm.cap
 have hmax:=hm.max
 have tM:=noteM_tot (decide (10<l.length))
 refine enter Tryz.func154 O 116 O O ?_
 refine CE hw ?_
 refine Cs (Cs (Cr (V0 (Ym O) (V0 (yl_gt O O) (Ln (Et ?_))))))
 refine Cc O (fun hc0=>?_) (fun hc0=>?_)
 ·
  have hd:6<d:=by simp at hc0; omega
  refine Cs (Cr (V0 (Ym O) (Lf 0 O ?_)))
  refine Lw0 [_] _ [blk vb (.cells #[.int .i64 0,.int .i64 ((c+noteM (true)).f:Int),.int .i64 ((c+noteM (true)).m:Int),.int .i64 0,.int .i64 ((c+noteM (true)).k:Int),.int .i64 0,.int .i64 0,.int .i64 0,.int .i64 0,.int .i64 0,.map (some be),.map (some bs)] 268 (0,0))] Y O en152 O O [] (by simp) (fun w hw=>note2_any vb be bs (c) (true) w (by omega) hw) ?_
  refine Ln (Et (Crt (Er ?_)))
  refine WE.ret0 O fun w' hw=>?_
  rw [show c+cntB l d=c+noteM true by rw [cntB,blkC,if_pos hd]; rfl]
  exact ⟨O,hw⟩
 have hd:¬6<d:=by simp at hc0; omega
 refine Ck (Et (Cs (Cr (V0 (Ym O) (V0 (Ym O) (V0 (Yn es172 O) (V0 (yl_gt O O) ?_)))))))
 rw [int_lt10]
 refine Lf 0 O ?_
 refine Lw0 [_] _ [blk vb (.cells #[.int .i64 0,.int .i64 ((c+noteM (decide (10<l.length))).f:Int),.int .i64 ((c+noteM (decide (10<l.length))).m:Int),.int .i64 0,.int .i64 ((c+noteM (decide (10<l.length))).k:Int),.int .i64 0,.int .i64 0,.int .i64 0,.int .i64 0,.int .i64 0,.map (some be),.map (some bs)] 268 (0,0))] Y O en152 O O [] (by simp) (fun w hw=>note2_any vb be bs (c) (decide (10<l.length)) w (by omega) hw) ?_
 refine Ln (Et (Cs (Cr (V0 (Ym O) (V0 (Yn es172 O) (V0 (Ym O) (Ln (Et (Cb ?_)))))))))
 refine CLk (ι:=Nat) (fun i=>[(24,.int .i64 (i:Int))]) [(0,_),(2,_),(22,_),(23,_)] (fun i=>Ws w [vb,be,bs] [blk vb (.cells #[.int .i64 0,.int .i64 ((c+noteM (decide (10<l.length))+cntSs (l.take i) d).f:Int),.int .i64 ((c+noteM (decide (10<l.length))+cntSs (l.take i) d).m:Int),.int .i64 0,.int .i64 ((c+noteM (decide (10<l.length))+cntSs (l.take i) d).k:Int),.int .i64 0,.int .i64 0,.int .i64 0,.int .i64 0,.int .i64 0,.map (some be),.map (some bs)] 268 (0,0)),blk be (gobj kI (exprsK 9) 15),blk bs (gobj kI stmtsK 7)] [H]) (fun i=>i≤l.length) (fun i=>l.length-i) 0 (Nat.zero_le _) (sc O (sc O (sc O (sc O (sc O sn))))) (fun _ h=>h) ?_
 intro i hi
 refine Cs (Cr (V0 (yl_lt O O) (Ln (Et (Cs ?_)))))
 refine Cc O (fun hc1=>?_) (fun hc1=>?_)
 ·
  have hlt:i<l.length:=by simpa using hc1
  obtain ⟨y,hyi⟩:∃q,l[i]? = some q:=⟨_,List.getElem?_eq_getElem hlt⟩
  obtain ⟨pby,poy,hay,hry⟩:=hm.elt i y hyi
  obtain ⟨k',rfl⟩:∃k',k=k'+1:=by
    cases k with
    | zero=>exact hry.elim
    | succ k'=>exact ⟨k',rfl⟩
  obtain ⟨ya,yn,y2,m2,y3,m3,hrow,hs1,hs2,hs3⟩:=hry
  have hup:=wSs_upto hyi
  have hwy:=wS_eq y
  have hle:=cntSs_le (l.take i) d
  have t1:=noteK_tot (shS y.op).isNone
  have t2:=shapeC_tot ((shS y.op).getD (false,0)) y.mod y.nm y.args.length
  have t3:=noteF_tot (bodyBad y.op y.body.length y.other.length)
  have t4:=cntEs_le y.args 1
  have t5:=cntB_le y.body (d+1)
  have hge:gget y.op stmtsK (.agg #[.bool false,.int .i64 0]) = .agg #[.bool ((shS y.op).getD (false,0)).1,.int .i64 ((shS y.op).getD (false,0)).2]:=(stmts_get y.op).1
  have hgh:=(stmts_get y.op).2
  have cap1:=hs1.cap
  have max1:=hs1.max
  have cap2:=hs2.cap
  have max2:=hs2.max
  have cap3:=hs3.cap
  have max3:=hs3.max
  have hb1:(c+noteM (decide (10<l.length))+cntSs (l.take i) d).tot≤1152921504606846976:=by simp only [Cnt.tot_add]; omega
  have hb2:(c+noteM (decide (10<l.length))+cntSs (l.take i) d+noteK (shS y.op).isNone).tot+4≤1152921504606846976:=by simp only [Cnt.tot_add]; omega
  have hb4:(c+noteM (decide (10<l.length))+cntSs (l.take i) d+noteK (shS y.op).isNone+shapeC ((shS y.op).getD (false,0)) y.mod y.nm y.args.length+cntEs y.args 1).tot≤1152921504606846976:=by simp only [Cnt.tot_add]; omega
  have hb5:(c+noteM (decide (10<l.length))+cntSs (l.take i) d+noteK (shS y.op).isNone+shapeC ((shS y.op).getD (false,0)) y.mod y.nm y.args.length+cntEs y.args 1+noteF (bodyBad y.op y.body.length y.other.length)).tot+2+8*wSs y.body≤1152921504606846976:=by simp only [Cnt.tot_add]; omega
  have hb6:(c+noteM (decide (10<l.length))+cntSs (l.take i) d+noteK (shS y.op).isNone+shapeC ((shS y.op).getD (false,0)) y.mod y.nm y.args.length+cntEs y.args 1+noteF (bodyBad y.op y.body.length y.other.length)+cntB y.body (d+1)).tot+2+8*wSs y.other≤1152921504606846976:=by simp only [Cnt.tot_add]; omega
  have hb7:(c+noteM (decide (10<l.length))+cntSs (l.take i) d+noteK (shS y.op).isNone+shapeC ((shS y.op).getD (false,0)) y.mod y.nm y.args.length+cntEs y.args 1+noteF (bodyBad y.op y.body.length y.other.length)).tot+2+8*wSs y.other≤1152921504606846976:=by simp only [Cnt.tot_add]; omega
  refine Ck (Et (Cs (Cb (Cs (Cr ?_)))))
  refine V0 (Yo es172 O O hay (by omega)) ?_
  refine V0 (yl_lda 0 ag222 O O O (hrow)) ?_
  refine Al Y O zr222 fun b7=>?_
  refine Lst 0 Y O O O sz222 O O O (Ln (Et (Cs ?_)))
  refine WC.draws0 [(0,true),(1,true),(2,true),(3,true),(4,true),(5,true),(6,true),(7,true),(8,true),(9,true),(10,false),(11,false),(12,false)] mixed (by kernel_rfl) (fun _ _ _ d _ h=>by cases d<;>exact h) ?_
  refine D0 O (fun _ h=>h) (Ym O) (D0 O (fun _ h=>h) (yl_nil O) (D0 O (fun _ h=>h) (Yf fo268_2 O) (D0 O (fun _ h=>h) (Yd 1 O O O na264) (D0 O (fun _ h=>h) (Yf fo222_0 O) (D0 O (fun _ h=>h) (Yd 0 O O O na3) ?_)))))
  refine D0 O (fun _ h=>h) (yl_glook2 3 keyInt um264 ui3 zr282 O O O) ?_
  rw [hge,hgh]
  refine D0 O (fun _ h=>h) (Ym O) (D0 O (fun _ h=>h) (Yx O O) (D0 O (fun _ h=>h) (Yx O O) ?_))
  refine De O (fun _ h=>h) ?_
  refine Al Y O zr282 fun b8=>?_
  refine Ln (Ed ?_)
  refine De O (fun _ h=>(Wd 1 h:)) ?_
  refine Lst 0 Y O O O sz282 O O O (Ln (Ed ?_))
  refine De O (fun _ h=>(Wd 1 h:)) ?_
  refine V0 (Ya O) (Ln (Ed ?_))
  refine WD.nil (fun _ h=>(Wd 1 h:)) ?_
  refine Et (Cs (Cr (V0 (Ym O) (V0 (Ym O) (V0 (yl_not O) ?_)))))
  rw [Bool.not_not]
  refine Lf 2 O ?_
  refine Lw0 [_] _ [blk vb (.cells #[.int .i64 0,.int .i64 ((c+noteM (decide (10<l.length))+cntSs (l.take i) d+noteK ((shS y.op).isNone)).f:Int),.int .i64 ((c+noteM (decide (10<l.length))+cntSs (l.take i) d+noteK ((shS y.op).isNone)).m:Int),.int .i64 0,.int .i64 ((c+noteM (decide (10<l.length))+cntSs (l.take i) d+noteK ((shS y.op).isNone)).k:Int),.int .i64 0,.int .i64 0,.int .i64 0,.int .i64 0,.int .i64 0,.map (some be),.map (some bs)] 268 (0,0))] Y O en152 O O [] (by simp) (fun w hw=>note4_any vb be bs (c+noteM (decide (10<l.length))+cntSs (l.take i) d) ((shS y.op).isNone) w (by omega) hw) ?_
  refine Ln (Et (Cs (Cr (V0 (Ym O) (V0 (Yda 1 O O ag282 O) (V0 (Yf fo222_1 O) (V0 (Yd 2 O O O na9) (V0 (Yf fo222_2 O) ?_))))))))
  refine V0 (Yd 2 O O O na9) (V0 (Yf fo222_3 O) (V0 (Yd 2 O O O na218) (V0 (Yn es218 O) (Lf 0 O ?_))))
  refine Lw0 [_] _ [blk vb (.cells #[.int .i64 0,.int .i64 ((c+noteM (decide (10<l.length))+cntSs (l.take i) d+noteK (shS y.op).isNone+shapeC ((shS y.op).getD (false,0)) y.mod y.nm y.args.length).f:Int),.int .i64 ((c+noteM (decide (10<l.length))+cntSs (l.take i) d+noteK (shS y.op).isNone+shapeC ((shS y.op).getD (false,0)) y.mod y.nm y.args.length).m:Int),.int .i64 0,.int .i64 ((c+noteM (decide (10<l.length))+cntSs (l.take i) d+noteK (shS y.op).isNone+shapeC ((shS y.op).getD (false,0)) y.mod y.nm y.args.length).k:Int),.int .i64 0,.int .i64 0,.int .i64 0,.int .i64 0,.int .i64 0,.map (some be),.map (some bs)] 268 (0,0))] Y O en173 O O [] (by simp) (fun w hw=>vshape_any vb be bs ((shS y.op).getD (false,0)).1 ((shS y.op).getD (false,0)).2 y.mod y.nm y.args.length (c+noteM (decide (10<l.length))+cntSs (l.take i) d+noteK (shS y.op).isNone) w (by omega) (by omega) hw) ?_
  refine Ln (Et (Cs (Cs (Cr (V0 (Yf fo222_3 O) (V0 (Yd 2 O O O na218) (V0 (Yn es218 O) (V0 (Ym O) (Ln (Et (Cb ?_)))))))))))
  refine CLk (ι:=Nat) (fun j=>[(55,.int .i64 (j:Int))]) [(0,_),(2,_),(7,_),(22,_),(23,_),(24,_),(53,_),(54,_)] (fun j=>Ws w [vb,be,bs] ([blk vb (.cells #[.int .i64 0,.int .i64 ((c+noteM (decide (10<l.length))+cntSs (l.take i) d+noteK (shS y.op).isNone+shapeC ((shS y.op).getD (false,0)) y.mod y.nm y.args.length+cntEs (y.args.take j) 1).f:Int),.int .i64 ((c+noteM (decide (10<l.length))+cntSs (l.take i) d+noteK (shS y.op).isNone+shapeC ((shS y.op).getD (false,0)) y.mod y.nm y.args.length+cntEs (y.args.take j) 1).m:Int),.int .i64 0,.int .i64 ((c+noteM (decide (10<l.length))+cntSs (l.take i) d+noteK (shS y.op).isNone+shapeC ((shS y.op).getD (false,0)) y.mod y.nm y.args.length+cntEs (y.args.take j) 1).k:Int),.int .i64 0,.int .i64 0,.int .i64 0,.int .i64 0,.int .i64 0,.map (some be),.map (some bs)] 268 (0,0)),blk be (gobj kI (exprsK 9) 15),blk bs (gobj kI stmtsK 7)]++[blk b7 (.cells (stmtV y ya yn y2 m2 y3 m3).toArray 222 (0,0))]) [H]) (fun j=>j≤y.args.length) (fun j=>y.args.length-j) 0 (Nat.zero_le _) (sc O (sc O (sc O (sc O (sc O (sc O (sc O (sc O (sc O sn))))))))) (fun _ h=>by exact (Wt 4 ((((h.f 2 O).f 4 O).f 4 O).f 3 O):)) ?_
  intro j hj
  refine Cs (Cr (V0 (yl_lt O O) (Ln (Et (Cs ?_)))))
  refine Cc O (fun hc2=>?_) (fun hc2=>?_)
  ·
   have hlt:j<y.args.length:=by simpa using hc2
   obtain ⟨z,hzi⟩:∃q,y.args[j]? = some q:=⟨_,List.getElem?_eq_getElem hlt⟩
   obtain ⟨pbz,poz,haz,hrz⟩:=hs1.elt j z hzi
   obtain ⟨ke',rfl⟩:∃ke',ke=ke'+1:=by
     cases ke with
     | zero=>exact hrz.elim
     | succ k'=>exact ⟨k',rfl⟩
   obtain ⟨za,zn,hrow2,hsub⟩:=hrz
   have hup2:=wEs_upto hzi
   have hle2:=cntEs_le (y.args.take j) 1
   have hbj:(c+noteM (decide (10<l.length))+cntSs (l.take i) d+noteK (shS y.op).isNone+shapeC ((shS y.op).getD (false,0)) y.mod y.nm y.args.length+cntEs (y.args.take j) 1).tot+8*wE z≤1152921504606846976:=by simp only [Cnt.tot_add]; omega
   have e2:c+noteM (decide (10<l.length))+cntSs (l.take i) d+noteK (shS y.op).isNone+shapeC ((shS y.op).getD (false,0)) y.mod y.nm y.args.length+cntEs (y.args.take j) 1+cntE z 1=c+noteM (decide (10<l.length))+cntSs (l.take i) d+noteK (shS y.op).isNone+shapeC ((shS y.op).getD (false,0)) y.mod y.nm y.args.length+cntEs (y.args.take (j+1)) 1:=by rw [cntEs_take 1 hzi,←Cnt.add_assoc']
   refine Ck (Et (Cs (Cb (Cs (Cr ?_)))))
   refine V0 (Yo es218 O O haz (by omega)) ?_
   refine V0 (yl_lda 0 ag220 O O O (hrow2)) ?_
   refine Al Y O zr220 fun b11=>?_
   refine Lst 0 Y O O O sz220 O O O (Ln (Et (Cr (V0 (Ym O) (V0 (Yda 0 O O ag220 O) (Lf 3 O (Lf 3 O ?_)))))))
   refine Lf 3 O ?_
   refine Lw0 [_,_,_] _ [blk vb (.cells #[.int .i64 0,.int .i64 ((c+noteM (decide (10<l.length))+cntSs (l.take i) d+noteK (shS y.op).isNone+shapeC ((shS y.op).getD (false,0)) y.mod y.nm y.args.length+cntEs (y.args.take j) 1+cntE z 1).f:Int),.int .i64 ((c+noteM (decide (10<l.length))+cntSs (l.take i) d+noteK (shS y.op).isNone+shapeC ((shS y.op).getD (false,0)) y.mod y.nm y.args.length+cntEs (y.args.take j) 1+cntE z 1).m:Int),.int .i64 0,.int .i64 ((c+noteM (decide (10<l.length))+cntSs (l.take i) d+noteK (shS y.op).isNone+shapeC ((shS y.op).getD (false,0)) y.mod y.nm y.args.length+cntEs (y.args.take j) 1+cntE z 1).k:Int),.int .i64 0,.int .i64 0,.int .i64 0,.int .i64 0,.int .i64 0,.map (some be),.map (some bs)] 268 (0,0)),blk be (gobj kI (exprsK 9) 15),blk bs (gobj kI stmtsK 7)] Y O en174 O O [H] (by simp) (fun w hw=>by
       have:=vexpr_any vb be bs H ke' z za zn 1 (c+noteM (decide (10<l.length))+cntSs (l.take i) d+noteK (shS y.op).isNone+shapeC ((shS y.op).getD (false,0)) y.mod y.nm y.args.length+cntEs (y.args.take j) 1) w hsub hbj hw
       exact this) ?_
   refine Ln (Eb (Et (Cr ?_)))
   refine V0 (Yi O O O (by omega)) ?_
   refine V0 (Ym O) (Ln ?_)
   rw [e2]
   exact Ea (j+1) (by omega) (by omega) (sc O (sc O (sc O (sc O (sc O (sc O (sc O (sc O (sc O sn))))))))) (fun _ h=>by exact (Wt 4 ((((h.f 4 O).f 3 O).f 3 O).f 3 O):))
  have hge3:¬j<y.args.length:=by simpa using hc2
  rw [List.take_of_length_le (by omega:y.args.length≤j)]
  refine Ce (Ex (Ex (Ebh (Et (Cs (Cr (V0 (Yf fo222_0 O) (V0 (Yd 3 O O O na3) (V0 (yl_eq O O) (V0 (Ym O) ?_))))))))))
  apply Lo 3 O O O O Y O O O O O
  ·
   intro hg0
   refine Vg (Yf fo222_0 O) (Vg (Yd 3 O O O na3) (Vg (yl_eq O O) ?_))
   exact Gt 3 O O O
  refine V0 (Ya O) (Ln (Et (Cs (Cr (V0 (Ym O) (V0 (Ym O) (V0 (yl_not O) (V0 (Ym O) ?_))))))))
  apply La 4 O O O O Y O O O O O
  ·
   intro hg1
   refine Vg (Yf fo222_4 O) (Vg (Yd 3 O O O na172) (Vg (Yn es172 O) (Vg (yl_gt O O) ?_)))
   rw [int_lt0]
   exact Gt 4 O O O
  refine V0 (Ym O) ?_
  apply Lo 9 O O O O Y O O O O O
  ·
   intro hg2
   refine Vg (Yf fo222_0 O) (Vg (Yd 3 O O O na3) (Vg (yl_ne O O) (Vg (Ym O) ?_)))
   apply La 4 O O O O (.g O O O) O O O O O
   ·
    intro hg3
    refine Vg (Yf fo222_5 O) (Vg (Yd 3 O O O na172) (Vg (Yn es172 O) (Vg (yl_gt O O) ?_)))
    rw [int_lt0]
    exact Gt 4 O O O
   exact Gt 5 O O O
  refine Lf 0 O ?_
  refine Lw0 [_] _ [blk vb (.cells #[.int .i64 0,.int .i64 ((c+noteM (decide (10<l.length))+cntSs (l.take i) d+noteK (shS y.op).isNone+shapeC ((shS y.op).getD (false,0)) y.mod y.nm y.args.length+cntEs y.args 1+noteF (bodyBad y.op y.body.length y.other.length)).f:Int),.int .i64 ((c+noteM (decide (10<l.length))+cntSs (l.take i) d+noteK (shS y.op).isNone+shapeC ((shS y.op).getD (false,0)) y.mod y.nm y.args.length+cntEs y.args 1+noteF (bodyBad y.op y.body.length y.other.length)).m:Int),.int .i64 0,.int .i64 ((c+noteM (decide (10<l.length))+cntSs (l.take i) d+noteK (shS y.op).isNone+shapeC ((shS y.op).getD (false,0)) y.mod y.nm y.args.length+cntEs y.args 1+noteF (bodyBad y.op y.body.length y.other.length)).k:Int),.int .i64 0,.int .i64 0,.int .i64 0,.int .i64 0,.int .i64 0,.map (some be),.map (some bs)] 268 (0,0))] Y O en152 O O [] (by simp) (fun w hw=>note1_any vb be bs (c+noteM (decide (10<l.length))+cntSs (l.take i) d+noteK (shS y.op).isNone+shapeC ((shS y.op).getD (false,0)) y.mod y.nm y.args.length+cntEs y.args 1) (bodyBad y.op y.body.length y.other.length) w (by omega) hw) ?_
  refine Ln (Et (Cs (Cs (Cr (V0 (Ym O) (V0 (Ym O) ?_))))))
  apply Lo 4 O O O O Y O O O O O
  ·
   intro hg4
   refine Vg (Yf fo222_4 O) (Vg (Yd 3 O O O na172) (Vg (Yn es172 O) (Vg (yl_gt O O) ?_)))
   rw [int_lt0]
   exact Gt 4 O O O
  refine Ln (Et ?_)
  refine Cc O (fun hc3=>?_) (fun hc3=>?_)
  ·
   have e3:(if (inner y.op||decide (0<y.body.length))=true then cntB y.body (d+1) else c0)=cntB y.body (d+1):=if_pos hc3
   refine Cr (V0 (Ym O) (V0 (Yf fo222_4 O) (V0 (Yd 3 O O O na172) (V0 (Ym O) ?_))))
   refine V0 (Yi O O O (by omega)) ?_
   refine Lf 2 O (Lf 2 O (Lf 2 O ?_))
   refine Lw0 [_,_,_] _ [blk vb (.cells #[.int .i64 0,.int .i64 ((c+noteM (decide (10<l.length))+cntSs (l.take i) d+noteK (shS y.op).isNone+shapeC ((shS y.op).getD (false,0)) y.mod y.nm y.args.length+cntEs y.args 1+noteF (bodyBad y.op y.body.length y.other.length)+cntB y.body (d+1)).f:Int),.int .i64 ((c+noteM (decide (10<l.length))+cntSs (l.take i) d+noteK (shS y.op).isNone+shapeC ((shS y.op).getD (false,0)) y.mod y.nm y.args.length+cntEs y.args 1+noteF (bodyBad y.op y.body.length y.other.length)+cntB y.body (d+1)).m:Int),.int .i64 0,.int .i64 ((c+noteM (decide (10<l.length))+cntSs (l.take i) d+noteK (shS y.op).isNone+shapeC ((shS y.op).getD (false,0)) y.mod y.nm y.args.length+cntEs y.args 1+noteF (bodyBad y.op y.body.length y.other.length)+cntB y.body (d+1)).k:Int),.int .i64 0,.int .i64 0,.int .i64 0,.int .i64 0,.int .i64 0,.map (some be),.map (some bs)] 268 (0,0)),blk be (gobj kI (exprsK 9) 15),blk bs (gobj kI stmtsK 7)] Y O en154 O O [H] (by simp) (fun w hw=>by
       have:=ih k' (by omega) y.body y2 m2 (d+1) (c+noteM (decide (10<l.length))+cntSs (l.take i) d+noteK (shS y.op).isNone+shapeC ((shS y.op).getD (false,0)) y.mod y.nm y.args.length+cntEs y.args 1+noteF (bodyBad y.op y.body.length y.other.length)) w hs2 hb5 hw
       exact this) ?_
   refine Ln (Et (Cs (Cr (V0 (Yf fo222_5 O) (V0 (Yd 3 O O O na172) (V0 (Yn es172 O) (V0 (yl_gt O O) ?_)))))))
   rw [int_lt0]
   refine Ln (Et ?_)
   refine Cc O (fun hc4=>?_) (fun hc4=>?_)
   ·
    have e4:(if 0<y.other.length then cntB y.other (d+1) else c0)=cntB y.other (d+1):=if_pos (by simpa using hc4)
    refine Cr (V0 (Ym O) (V0 (Yf fo222_5 O) (V0 (Yd 3 O O O na172) (V0 (Ym O) ?_))))
    refine V0 (Yi O O O (by omega)) ?_
    refine Lf 2 O (Lf 2 O (Lf 2 O ?_))
    refine Lw0 [_,_,_] _ [blk vb (.cells #[.int .i64 0,.int .i64 ((c+noteM (decide (10<l.length))+cntSs (l.take i) d+noteK (shS y.op).isNone+shapeC ((shS y.op).getD (false,0)) y.mod y.nm y.args.length+cntEs y.args 1+noteF (bodyBad y.op y.body.length y.other.length)+cntB y.body (d+1)+cntB y.other (d+1)).f:Int),.int .i64 ((c+noteM (decide (10<l.length))+cntSs (l.take i) d+noteK (shS y.op).isNone+shapeC ((shS y.op).getD (false,0)) y.mod y.nm y.args.length+cntEs y.args 1+noteF (bodyBad y.op y.body.length y.other.length)+cntB y.body (d+1)+cntB y.other (d+1)).m:Int),.int .i64 0,.int .i64 ((c+noteM (decide (10<l.length))+cntSs (l.take i) d+noteK (shS y.op).isNone+shapeC ((shS y.op).getD (false,0)) y.mod y.nm y.args.length+cntEs y.args 1+noteF (bodyBad y.op y.body.length y.other.length)+cntB y.body (d+1)+cntB y.other (d+1)).k:Int),.int .i64 0,.int .i64 0,.int .i64 0,.int .i64 0,.int .i64 0,.map (some be),.map (some bs)] 268 (0,0)),blk be (gobj kI (exprsK 9) 15),blk bs (gobj kI stmtsK 7)] Y O en154 O O [H] (by simp) (fun w hw=>by
        have:=ih k' (by omega) y.other y3 m3 (d+1) (c+noteM (decide (10<l.length))+cntSs (l.take i) d+noteK (shS y.op).isNone+shapeC ((shS y.op).getD (false,0)) y.mod y.nm y.args.length+cntEs y.args 1+noteF (bodyBad y.op y.body.length y.other.length)+cntB y.body (d+1)) w hs3 hb6 hw
        exact this) ?_
    refine Ln (Eb (Et (Cr ?_)))
    refine V0 (Yi O O O (by omega)) ?_
    refine V0 (Ym O) (Ln ?_)
    rw [show c+noteM (decide (10<l.length))+cntSs (l.take i) d+noteK (shS y.op).isNone+shapeC ((shS y.op).getD (false,0)) y.mod y.nm y.args.length+cntEs y.args 1+noteF (bodyBad y.op y.body.length y.other.length)+cntB y.body (d+1)+cntB y.other (d+1)=c+noteM (decide (10<l.length))+cntSs (l.take (i+1)) d by rw [cntSs_take d hyi,cntS_eq,e3,e4]; simp only [Cnt.add_assoc',add_c0,c0_add]]
    exact Ea (i+1) (by omega) (by omega) (sc O (sc O (sc O (sc O (sc O sn))))) (fun _ h=>(Wt 3 (((h.f 2 O).f 2 O).f 2 O):))
   have e4:(if 0<y.other.length then cntB y.other (d+1) else c0)=c0:=if_neg (by simpa using hc4)
   refine Ck (Eb (Et (Cr ?_)))
   refine V0 (Yi O O O (by omega)) ?_
   refine V0 (Ym O) (Ln ?_)
   rw [show c+noteM (decide (10<l.length))+cntSs (l.take i) d+noteK (shS y.op).isNone+shapeC ((shS y.op).getD (false,0)) y.mod y.nm y.args.length+cntEs y.args 1+noteF (bodyBad y.op y.body.length y.other.length)+cntB y.body (d+1)=c+noteM (decide (10<l.length))+cntSs (l.take (i+1)) d by rw [cntSs_take d hyi,cntS_eq,e3,e4]; simp only [Cnt.add_assoc',add_c0,c0_add]]
   exact Ea (i+1) (by omega) (by omega) (sc O (sc O (sc O (sc O (sc O sn))))) (fun _ h=>(Wt 3 (((h.f 2 O).f 2 O).f 2 O):))
  have e3:(if (inner y.op||decide (0<y.body.length))=true then cntB y.body (d+1) else c0)=c0:=if_neg (fun e=>by rw [show (inner y.op||decide (0<y.body.length))=false from hc3] at e; cases e)
  refine Ck (Et (Cs (Cr (V0 (Yf fo222_5 O) (V0 (Yd 3 O O O na172) (V0 (Yn es172 O) (V0 (yl_gt O O) ?_)))))))
  rw [int_lt0]
  refine Ln (Et ?_)
  refine Cc O (fun hc4=>?_) (fun hc4=>?_)
  ·
   have e4:(if 0<y.other.length then cntB y.other (d+1) else c0)=cntB y.other (d+1):=if_pos (by simpa using hc4)
   refine Cr (V0 (Ym O) (V0 (Yf fo222_5 O) (V0 (Yd 3 O O O na172) (V0 (Ym O) ?_))))
   refine V0 (Yi O O O (by omega)) ?_
   refine Lf 2 O (Lf 2 O (Lf 2 O ?_))
   refine Lw0 [_,_,_] _ [blk vb (.cells #[.int .i64 0,.int .i64 ((c+noteM (decide (10<l.length))+cntSs (l.take i) d+noteK (shS y.op).isNone+shapeC ((shS y.op).getD (false,0)) y.mod y.nm y.args.length+cntEs y.args 1+noteF (bodyBad y.op y.body.length y.other.length)+cntB y.other (d+1)).f:Int),.int .i64 ((c+noteM (decide (10<l.length))+cntSs (l.take i) d+noteK (shS y.op).isNone+shapeC ((shS y.op).getD (false,0)) y.mod y.nm y.args.length+cntEs y.args 1+noteF (bodyBad y.op y.body.length y.other.length)+cntB y.other (d+1)).m:Int),.int .i64 0,.int .i64 ((c+noteM (decide (10<l.length))+cntSs (l.take i) d+noteK (shS y.op).isNone+shapeC ((shS y.op).getD (false,0)) y.mod y.nm y.args.length+cntEs y.args 1+noteF (bodyBad y.op y.body.length y.other.length)+cntB y.other (d+1)).k:Int),.int .i64 0,.int .i64 0,.int .i64 0,.int .i64 0,.int .i64 0,.map (some be),.map (some bs)] 268 (0,0)),blk be (gobj kI (exprsK 9) 15),blk bs (gobj kI stmtsK 7)] Y O en154 O O [H] (by simp) (fun w hw=>by
       have:=ih k' (by omega) y.other y3 m3 (d+1) (c+noteM (decide (10<l.length))+cntSs (l.take i) d+noteK (shS y.op).isNone+shapeC ((shS y.op).getD (false,0)) y.mod y.nm y.args.length+cntEs y.args 1+noteF (bodyBad y.op y.body.length y.other.length)) w hs3 hb7 hw
       exact this) ?_
   refine Ln (Eb (Et (Cr ?_)))
   refine V0 (Yi O O O (by omega)) ?_
   refine V0 (Ym O) (Ln ?_)
   rw [show c+noteM (decide (10<l.length))+cntSs (l.take i) d+noteK (shS y.op).isNone+shapeC ((shS y.op).getD (false,0)) y.mod y.nm y.args.length+cntEs y.args 1+noteF (bodyBad y.op y.body.length y.other.length)+cntB y.other (d+1)=c+noteM (decide (10<l.length))+cntSs (l.take (i+1)) d by rw [cntSs_take d hyi,cntS_eq,e3,e4]; simp only [Cnt.add_assoc',add_c0,c0_add]]
   exact Ea (i+1) (by omega) (by omega) (sc O (sc O (sc O (sc O (sc O sn))))) (fun _ h=>(Wt 3 (((h.f 2 O).f 2 O).f 2 O):))
  have e4:(if 0<y.other.length then cntB y.other (d+1) else c0)=c0:=if_neg (by simpa using hc4)
  refine Ck (Eb (Et (Cr ?_)))
  refine V0 (Yi O O O (by omega)) ?_
  refine V0 (Ym O) (Ln ?_)
  rw [show c+noteM (decide (10<l.length))+cntSs (l.take i) d+noteK (shS y.op).isNone+shapeC ((shS y.op).getD (false,0)) y.mod y.nm y.args.length+cntEs y.args 1+noteF (bodyBad y.op y.body.length y.other.length)=c+noteM (decide (10<l.length))+cntSs (l.take (i+1)) d by rw [cntSs_take d hyi,cntS_eq,e3,e4]; simp only [Cnt.add_assoc',add_c0,c0_add]]
  exact Ea (i+1) (by omega) (by omega) (sc O (sc O (sc O (sc O (sc O sn))))) (fun _ h=>(Wt 3 (((h.f 2 O).f 2 O).f 2 O):))
 have hge2:¬i<l.length:=by simpa using hc1
 rw [List.take_of_length_le (by omega),Cnt.add_assoc',←cntB_eq hd]
 refine Ce (Ex (Ex (Ebh ?_)))
 refine E0 O fun w' hw=>?_
 exact ⟨O,hw⟩
theorem wD_take:∀(l:List TDecl) (i:Nat),wD (l.take i)≤wD l
 | [],i=>by simp
 | x::r,0=>by simp [wD]
 | x::r,i+1=>by have:=wD_take r i; simp only [List.take_succ_cons,wD]; omega
theorem wP_take:∀(l:List TProc) (i:Nat),wP (l.take i)≤wP l
 | [],i=>by simp
 | x::r,0=>by simp [wP]
 | x::r,i+1=>by have:=wP_take r i; simp only [List.take_succ_cons,wP]; omega
theorem wP_upto {l:List TProc} {i:Nat} {p:TProc} (h:l[i]? = some p):wP (l.take i)+(1+p.nm.length+wN p.params+wN p.locs+wSs p.body)≤wP l:=by
 have h2:=wP_take l (i+1)
 rw [take_snoc h] at h2
 have:∀a b:List TProc,wP (a++b)=wP a+wP b:=by
   intro a b
   induction a with
   | nil=>simp [wP]
   | cons y a ih=>simp only [List.cons_append,wP,ih]; omega
 rw [this] at h2
 simp only [wP] at h2
 omega
theorem declsC_app:∀a b:List TDecl,declsC (a++b)=declsC a+declsC b
 | [],b=>by apply Cnt.ext'<;>simp [Cnt.add_f,Cnt.add_m,Cnt.add_k,declsC,c0]
 | x::a,b=>by
   rw [List.cons_append,show ∀q,declsC (x::q)=declC x+declsC q from fun _=>rfl,declsC_app a b,show ∀q,declsC (x::q)=declC x+declsC q from fun _=>rfl,Cnt.add_assoc']
theorem declsC_take {l:List TDecl} {i:Nat} {s:TDecl} (h:l[i]? = some s):declsC (l.take (i+1))=declsC (l.take i)+declC s:=by rw [take_snoc h,declsC_app]; rfl
theorem procsC_app:∀a b:List TProc,procsC (a++b)=procsC a+procsC b
 | [],b=>by apply Cnt.ext'<;>simp [Cnt.add_f,Cnt.add_m,Cnt.add_k,procsC,c0]
 | x::a,b=>by
   rw [List.cons_append,show ∀q,procsC (x::q)=procC x+procsC q from fun _=>rfl,procsC_app a b,show ∀q,procsC (x::q)=procC x+procsC q from fun _=>rfl,Cnt.add_assoc']
theorem procsC_take {l:List TProc} {i:Nat} {s:TProc} (h:l[i]? = some s):procsC (l.take (i+1))=procsC (l.take i)+procC s:=by rw [take_snoc h,procsC_app]; rfl
theorem int_lt4 (n:Nat):decide ((4:Int)<(n:Int))=decide (4<n):=by rw [Bool.eq_iff_iff]; simp; omega
theorem int_lt6 (n:Nat):decide ((6:Int)<(n:Int))=decide (6<n):=by rw [Bool.eq_iff_iff]; simp; omega
def eN (i:Nat):Nat:=if i=0 then 4 else if i=1 then 2 else 1
def cE (c:Cnt) (i:Nat):Nat:=if i=0 then c.k else if i=1 then c.m else c.f
theorem eN_get {i:Nat} (h:i<3):(#[.int .i64 4,.int .i64 2,.int .i64 1]:Array Value)[i]? = some (.int .i64 (eN i:Int)):=by
 match i,h with
 | 0,_=>rfl
 | 1,_=>rfl
 | 2,_=>rfl
theorem eN_lt (i:Nat):eN i<10:=by unfold eN; split; omega; split<;>omega
theorem found_get {c:Cnt} {be bs i:Nat} (h:i<3) {T:TypeId} {fz:Nat×Nat}:cellIn (.cells #[.int .i64 0,.int .i64 (c.f:Int),.int .i64 (c.m:Int),.int .i64 0,.int .i64 (c.k:Int),.int .i64 0,.int .i64 0,.int .i64 0,.int .i64 0,.int .i64 0,.map (some be),.map (some bs)] T fz) (0+0+eN i*1)=some (.int .i64 (cE c i:Int)):=by
 match i,h with
 | 0,_=>rfl
 | 1,_=>rfl
 | 2,_=>rfl
theorem err_at {c:Cnt} {i:Nat} (h:i<3) (h0:∀j,j<i→cE c j=0) (h1:0<cE c i):(eN i:Int)=errC c:=by
 match i,h,h0,h1 with
 | 0,_,_,h1=>unfold errC; rw [if_pos (show 0<c.k from h1)]; rfl
 | 1,_,h0,h1=>have:=h0 0 (by omega); unfold errC; rw [if_neg (by simp [cE] at this; omega),if_pos (show 0<c.m from h1)]; rfl
 | 2,_,h0,h1=>have a:=h0 0 (by omega); have b:=h0 1 (by omega); unfold errC; rw [if_neg (by simp [cE] at a; omega),if_neg (by simp [cE] at b; omega),if_pos (show 0<c.f from h1)]; rfl
theorem err_none {c:Cnt} (h:∀j,j<3→cE c j=0):errC c=0:=by
 have a:=h 0 (by omega); have b:=h 1 (by omega); have d:=h 2 (by omega)
 simp [cE] at a b d
 unfold errC
 rw [if_neg (by omega),if_neg (by omega),if_neg (by omega)]
theorem en149:Enters Tryz.prog 149:=enters_of Tryz.func149 (by kernel_rfl) rfl
theorem en150:Enters Tryz.prog 150:=enters_of Tryz.func150 (by kernel_rfl) rfl
theorem pl268:placesP Tryz.prog 268=some [(0,10),(10,1),(11,1)]:=by kernel_rfl
theorem zr268:zeroOf Tryz.prog 268=some (.agg #[.int .i64 0,.int .i64 0,.int .i64 0,.int .i64 0,.int .i64 0,.int .i64 0,.int .i64 0,.int .i64 0,.int .i64 0,.int .i64 0,.map none,.map none]):=by kernel_rfl
theorem fo174_0:fieldOff Tryz.prog 174 0=some 0:=by kernel_rfl
theorem fo174_1:fieldOff Tryz.prog 174 1=some 1:=by kernel_rfl
theorem na22:nonAgg Tryz.prog 22=true:=by kernel_rfl
theorem fo174_2:fieldOff Tryz.prog 174 2=some 2:=by kernel_rfl
theorem na170:nonAgg Tryz.prog 170=true:=by kernel_rfl
theorem es170:elemSz Tryz.prog 170=some 4:=by kernel_rfl
theorem fo174_3:fieldOff Tryz.prog 174 3=some 3:=by kernel_rfl
theorem na171:nonAgg Tryz.prog 171=true:=by kernel_rfl
theorem es171:elemSz Tryz.prog 171=some 5:=by kernel_rfl
theorem ag217:aggOf Tryz.prog 217=some 4:=by kernel_rfl
theorem zr217:zeroOf Tryz.prog 217=some (.agg #[.int .i64 0,st [],.bool false,.int .i64 0]):=by kernel_rfl
theorem sz217:sizeP Tryz.prog 217=some 4:=by kernel_rfl
theorem en153:Enters Tryz.prog 153:=enters_of Tryz.func153 (by kernel_rfl) rfl
theorem ag213:aggOf Tryz.prog 213=some 5:=by kernel_rfl
theorem zr213:zeroOf Tryz.prog 213=some (.agg #[st [],.bool false,.slice none 0 0,.slice none 0 0,.slice none 0 0]):=by kernel_rfl
theorem sz213:sizeP Tryz.prog 213=some 5:=by kernel_rfl
theorem fo213_0:fieldOff Tryz.prog 213 0=some 0:=by kernel_rfl
theorem fo213_2:fieldOff Tryz.prog 213 2=some 2:=by kernel_rfl
theorem fo213_3:fieldOff Tryz.prog 213 3=some 3:=by kernel_rfl
theorem fo213_4:fieldOff Tryz.prog 213 4=some 4:=by kernel_rfl
theorem fo174_4:fieldOff Tryz.prog 174 4=some 4:=by kernel_rfl
theorem ar271:arrP Tryz.prog 271=some (3,1):=by kernel_rfl
theorem zr271:zeroOf Tryz.prog 271=some (.agg #[.int .i64 0,.int .i64 0,.int .i64 0]):=by kernel_rfl
theorem ara271:arr1 Tryz.prog 271=some 3:=by kernel_rfl
theorem treeCheck_any (H:View) (ke ks:Nat) (r:MAt) (m:TMod) (w:World) (hH:Le H w) (hm:RdM ke ks H r m) (hb:wM m≤9007199254740992) :
   Calls Tryz.prog 122 #[.agg (modV m r).toArray] w fun e w'=>e = .returned (.int .i64 (checkM m))∧Ext w w':=by
 have hb1:=cntN1_le m.nm
 have hb2:=cntN_le m.uses
 have hb3:=noteM_tot ((decide (3<m.uses.length)||decide (10<m.decls.length))||decide (6<m.procs.length))
 have hb4:=declsC_le m.decls
 have hb5:=procsC_le m.procs
 have hb6:=cntB_le m.main 1
 have hwM:wM m=1+m.nm.length+wN m.uses+wD m.decls+wP m.procs+wSs m.main:=rfl
 have hz:c0.tot=0:=rfl
 have hl1:=wN_len m.uses
 have cu:=hm.uses.cap
 have xu:=hm.uses.max
 have cd:=hm.decls.cap
 have xd:=hm.decls.max
 have cp:=hm.procs.cap
 have xp:=hm.procs.max
 have hbd:∀i,(declsC (m.decls.take i)).tot≤8*wD m.decls:=fun i=>by have:=declsC_le (m.decls.take i); have:=wD_take m.decls i; omega
 have hbp:∀i,(procsC (m.procs.take i)).tot≤8*wP m.procs:=fun i=>by have:=procsC_le (m.procs.take i); have:=wP_take m.procs i; omega
 have hk1:(c0+cntN [m.nm]).tot+16+m.uses.length≤1152921504606846976:=by simp only [Cnt.tot_add]; omega
 have hk2:(c0+cntN [m.nm]+cntN m.uses).tot+16+m.uses.length≤1152921504606846976:=by simp only [Cnt.tot_add]; omega
 have hk3:(c0+cntN [m.nm]+cntN m.uses+noteM ((decide (3<m.uses.length)||decide (10<m.decls.length))||decide (6<m.procs.length))).tot+16+m.uses.length≤1152921504606846976:=by simp only [Cnt.tot_add]; omega
 have hk4:(c0+cntN [m.nm]+cntN m.uses+noteM ((decide (3<m.uses.length)||decide (10<m.decls.length))||decide (6<m.procs.length))+declsC m.decls).tot+16+m.uses.length≤1152921504606846976:=by simp only [Cnt.tot_add]; omega
 have hk5:(c0+cntN [m.nm]+cntN m.uses+noteM ((decide (3<m.uses.length)||decide (10<m.decls.length))||decide (6<m.procs.length))+declsC m.decls+procsC m.procs).tot+16+8*wSs m.main≤1152921504606846976:=by simp only [Cnt.tot_add]; omega
 refine enter Tryz.func122 O 106 O O ?_
 refine CE (Vs:=[H]) (Ws.init (by simp [hH])) ?_
 refine Cs (Cr ?_)
 refine WL.box Y O O fun b1=>?_
 refine V0 (Ya O) (Ln (Et (Cs (Cr ?_))))
 refine WL.calln (ι:=Nat) Y O en149 O (fun b=>.map (some b)) (fun b=>[blk b (gobj kI (exprsK 9) 15)]) (fun _=>True) (fun w hw=>(exprs_any w).mono fun e w' h=>by
     obtain ⟨b,h1,h2⟩:=h
     exact ⟨b,h1,trivial,h2⟩) ?_
 intro be _
 refine WL.calln (ι:=Nat) Y O en150 O (fun b=>.map (some b)) (fun b=>[blk b (gobj kI stmtsK 7)]) (fun _=>True) (fun w hw=>(stmts_any w).mono fun e w' h=>by
     obtain ⟨b,h1,h2⟩:=h
     exact ⟨b,h1,trivial,h2⟩) ?_
 intro bs _
 refine V0 (Yb zr268 pl268 O O) ?_
 refine WL.box Y O O fun b13=>?_
 refine Lrb 0 (.cells #[.int .i64 0,.int .i64 ((c0).f:Int),.int .i64 ((c0).m:Int),.int .i64 0,.int .i64 ((c0).k:Int),.int .i64 0,.int .i64 0,.int .i64 0,.int .i64 0,.int .i64 0,.map (some be),.map (some bs)] 268 (0,0)) O O ?_
 refine V0 (Ya O) (Ln (Et (Cs (Cr (V0 (Ym O) (V0 (Yf fo174_0 O) (V0 (Yd 3 O O O na9) ?_)))))))
 refine Lb Y O el22 O O O O fun b17=>?_
 refine Lsv (T:=9) (m:=1) 0 [m.nm] O O (show 1≤1 by decide) (by decide) fun H17 hH17=>?_
 refine Lf 0 O ?_
 refine Lw0 [_] _ [blk b13 (.cells #[.int .i64 0,.int .i64 ((c0+cntN [m.nm]).f:Int),.int .i64 ((c0+cntN [m.nm]).m:Int),.int .i64 0,.int .i64 ((c0+cntN [m.nm]).k:Int),.int .i64 0,.int .i64 0,.int .i64 0,.int .i64 0,.int .i64 0,.map (some be),.map (some bs)] 268 (0,0))] Y O en151 O O [H17] (by simp) (fun w hw=>names_any b13 be bs H17 _ _ [m.nm] (c0) w hH17 (by show c0.tot+1≤_; omega) hw) ?_
 refine Ln (Et (Cs (Cr (V0 (Ym O) (V0 (Yf fo174_1 O) (V0 (Yd 3 O O O na22) (Lf 0 O ?_)))))))
 refine Lw0 [_] _ [blk b13 (.cells #[.int .i64 0,.int .i64 ((c0+cntN [m.nm]+cntN m.uses).f:Int),.int .i64 ((c0+cntN [m.nm]+cntN m.uses).m:Int),.int .i64 0,.int .i64 ((c0+cntN [m.nm]+cntN m.uses).k:Int),.int .i64 0,.int .i64 0,.int .i64 0,.int .i64 0,.int .i64 0,.map (some be),.map (some bs)] 268 (0,0))] Y O en151 O O [H] (by simp) (fun w hw=>names_any b13 be bs H r.a1 r.c1 m.uses (c0+cntN [m.nm]) w hm.uses (by omega) hw) ?_
 refine Ln (Et (Cs (Cr (V0 (Ym O) (V0 (Yf fo174_1 O) (V0 (Yd 3 O O O na22) (V0 (Yn es22 O) (V0 (yl_gt O O) ?_))))))))
 rw [int_lt3]
 refine V0 (Ym O) ?_
 apply Lo 4 O O O O Y O O O O O
 ·
  intro hg0
  refine Vg (Yf fo174_2 O) (Vg (Yd 3 O O O na170) (Vg (Yn es170 O) (Vg (yl_gt O O) ?_)))
  rw [int_lt10]
  exact Gt 4 O O O
 refine V0 (Ym O) ?_
 apply Lo 4 O O O O Y O O O O O
 ·
  intro hg1
  refine Vg (Yf fo174_3 O) (Vg (Yd 3 O O O na171) (Vg (Yn es171 O) (Vg (yl_gt O O) ?_)))
  rw [int_lt6]
  exact Gt 4 O O O
 refine Lf 0 O ?_
 refine Lw0 [_] _ [blk b13 (.cells #[.int .i64 0,.int .i64 ((c0+cntN [m.nm]+cntN m.uses+noteM ((decide (3<m.uses.length)||decide (10<m.decls.length))||decide (6<m.procs.length))).f:Int),.int .i64 ((c0+cntN [m.nm]+cntN m.uses+noteM ((decide (3<m.uses.length)||decide (10<m.decls.length))||decide (6<m.procs.length))).m:Int),.int .i64 0,.int .i64 ((c0+cntN [m.nm]+cntN m.uses+noteM ((decide (3<m.uses.length)||decide (10<m.decls.length))||decide (6<m.procs.length))).k:Int),.int .i64 0,.int .i64 0,.int .i64 0,.int .i64 0,.int .i64 0,.map (some be),.map (some bs)] 268 (0,0))] Y O en152 O O [] (by simp) (fun w hw=>note2_any b13 be bs (c0+cntN [m.nm]+cntN m.uses) ((decide (3<m.uses.length)||decide (10<m.decls.length))||decide (6<m.procs.length)) w (by omega) hw) ?_
 refine Ln (Et (Cs (Cs (Cr (V0 (Yf fo174_2 O) (V0 (Yd 3 O O O na170) (V0 (Yn es170 O) (V0 (Ym O) (Ln (Et (Cb ?_)))))))))))
 refine CLk (ι:=Nat) (fun i=>[(44,.int .i64 (i:Int))]) [(1,_),(2,_),(3,_),(42,_),(43,_)] (fun i=>Ws w [] [blk b13 (.cells #[.int .i64 0,.int .i64 ((c0+cntN [m.nm]+cntN m.uses+noteM ((decide (3<m.uses.length)||decide (10<m.decls.length))||decide (6<m.procs.length))+declsC (m.decls.take i)).f:Int),.int .i64 ((c0+cntN [m.nm]+cntN m.uses+noteM ((decide (3<m.uses.length)||decide (10<m.decls.length))||decide (6<m.procs.length))+declsC (m.decls.take i)).m:Int),.int .i64 0,.int .i64 ((c0+cntN [m.nm]+cntN m.uses+noteM ((decide (3<m.uses.length)||decide (10<m.decls.length))||decide (6<m.procs.length))+declsC (m.decls.take i)).k:Int),.int .i64 0,.int .i64 0,.int .i64 0,.int .i64 0,.int .i64 0,.map (some be),.map (some bs)] 268 (0,0)),blk be (gobj kI (exprsK 9) 15),blk bs (gobj kI stmtsK 7),blk b1 (.cells (modV m r).toArray 174 (0,0))] [H]) (fun i=>i≤m.decls.length) (fun i=>m.decls.length-i) 0 (Nat.zero_le _) (sc O (sc O (sc O (sc O (sc O (sc O sn)))))) (fun _ h=>by have h:=h.fronti 3 O; have h:=h.fronti 2 O; have h:=h.fronti 3 O; have h:=h.fronti 3 O; have h:=Ws.drops h (Vs':=[H]) (by simp); exact h) ?_
 intro i hi
 refine Cs (Cr (V0 (yl_lt O O) (Ln (Et (Cs ?_)))))
 refine Cc O (fun hc0=>?_) (fun hc0=>?_)
 ·
  have hlt:i<m.decls.length:=by simpa using hc0
  obtain ⟨d,hdi⟩:∃q,m.decls[i]? = some q:=⟨_,List.getElem?_eq_getElem hlt⟩
  obtain ⟨pbd,pod,had,hrd⟩:=hm.decls.elt i d hdi
  have hrd:RdC H pbd (pod+i*4) d.cells:=hrd
  have e2:c0+cntN [m.nm]+cntN m.uses+noteM ((decide (3<m.uses.length)||decide (10<m.decls.length))||decide (6<m.procs.length))+declsC (m.decls.take i)+declC d=c0+cntN [m.nm]+cntN m.uses+noteM ((decide (3<m.uses.length)||decide (10<m.decls.length))||decide (6<m.procs.length))+declsC (m.decls.take (i+1)):=by rw [declsC_take hdi,←Cnt.add_assoc']
  have hbi:=hbd i
  have hki:(c0+cntN [m.nm]+cntN m.uses+noteM ((decide (3<m.uses.length)||decide (10<m.decls.length))||decide (6<m.procs.length))+declsC (m.decls.take i)).tot+4≤4611686018427387904:=by simp only [Cnt.tot_add]; omega
  refine Ck (Et (Cs (Cb (Cs (Cr ?_)))))
  refine V0 (Yo es170 O O had (by omega)) ?_
  refine V0 (yl_lda 0 ag217 O O O (hrd)) ?_
  refine Al Y O zr217 fun b5=>?_
  refine Lst 0 Y O O O sz217 O O O (Ln (Et (Cr (V0 (Ym O) (V0 (Yda 0 O O ag217 O) (Lf 1 O ?_))))))
  refine Lw0 [_] _ [blk b13 (.cells #[.int .i64 0,.int .i64 ((c0+cntN [m.nm]+cntN m.uses+noteM ((decide (3<m.uses.length)||decide (10<m.decls.length))||decide (6<m.procs.length))+declsC (m.decls.take i)+declC d).f:Int),.int .i64 ((c0+cntN [m.nm]+cntN m.uses+noteM ((decide (3<m.uses.length)||decide (10<m.decls.length))||decide (6<m.procs.length))+declsC (m.decls.take i)+declC d).m:Int),.int .i64 0,.int .i64 ((c0+cntN [m.nm]+cntN m.uses+noteM ((decide (3<m.uses.length)||decide (10<m.decls.length))||decide (6<m.procs.length))+declsC (m.decls.take i)+declC d).k:Int),.int .i64 0,.int .i64 0,.int .i64 0,.int .i64 0,.int .i64 0,.map (some be),.map (some bs)] 268 (0,0))] Y O en153 O O [] (by simp) (fun w hw=>vdecl_any b13 be bs d (c0+cntN [m.nm]+cntN m.uses+noteM ((decide (3<m.uses.length)||decide (10<m.decls.length))||decide (6<m.procs.length))+declsC (m.decls.take i)) w (by omega) hw) ?_
  refine Ln (Eb (Et (Cr ?_)))
  refine V0 (Yi O O O (by omega)) ?_
  refine V0 (Ym O) (Ln ?_)
  rw [e2]
  exact Ea (i+1) (by omega) (by omega) (sc O (sc O (sc O (sc O (sc O (sc O sn)))))) (fun _ h=>by exact (Wt 4 ((((h.f 4 O).f 4 O).f 4 O).f 3 O):))
 have hge:¬i<m.decls.length:=by simpa using hc0
 rw [List.take_of_length_le (by omega)]
 refine Ce (Ex (Ex (Ebh (Et (Cs (Cs (Cr (V0 (Yf fo174_3 O) (V0 (Yd 3 O O O na171) (V0 (Yn es171 O) (V0 (Ym O) ?_)))))))))))
 refine Ln (Et (Cb ?_))
 refine CLk (ι:=Nat) (fun j=>[(55,.int .i64 (j:Int))]) [(1,_),(2,_),(3,_),(53,_),(54,_)] (fun j=>Ws w [] [blk b13 (.cells #[.int .i64 0,.int .i64 ((c0+cntN [m.nm]+cntN m.uses+noteM ((decide (3<m.uses.length)||decide (10<m.decls.length))||decide (6<m.procs.length))+declsC m.decls+procsC (m.procs.take j)).f:Int),.int .i64 ((c0+cntN [m.nm]+cntN m.uses+noteM ((decide (3<m.uses.length)||decide (10<m.decls.length))||decide (6<m.procs.length))+declsC m.decls+procsC (m.procs.take j)).m:Int),.int .i64 0,.int .i64 ((c0+cntN [m.nm]+cntN m.uses+noteM ((decide (3<m.uses.length)||decide (10<m.decls.length))||decide (6<m.procs.length))+declsC m.decls+procsC (m.procs.take j)).k:Int),.int .i64 0,.int .i64 0,.int .i64 0,.int .i64 0,.int .i64 0,.map (some be),.map (some bs)] 268 (0,0)),blk be (gobj kI (exprsK 9) 15),blk bs (gobj kI stmtsK 7),blk b1 (.cells (modV m r).toArray 174 (0,0))] [H]) (fun j=>j≤m.procs.length) (fun j=>m.procs.length-j) 0 (Nat.zero_le _) (sc O (sc O (sc O (sc O (sc O (sc O sn)))))) (fun _ h=>h) ?_
 intro j hj
 refine Cs (Cr (V0 (yl_lt O O) (Ln (Et (Cs ?_)))))
 refine Cc O (fun hc1=>?_) (fun hc1=>?_)
 ·
  have hlt:j<m.procs.length:=by simpa using hc1
  obtain ⟨p,hpi⟩:∃q,m.procs[j]? = some q:=⟨_,List.getElem?_eq_getElem hlt⟩
  obtain ⟨pbp,pop,hap,hrp⟩:=hm.procs.elt j p hpi
  obtain ⟨pa1,pc1,pa2,pc2,pa3,pc3,hrow,hs1,hs2,hs3⟩:=hrp
  have hup:=wP_upto hpi
  have hbj:=hbp j
  have hle:=procsC_le (m.procs.take j)
  have q1:=cntN1_le p.nm
  have q2:=cntN_le p.params
  have q3:=cntN_le p.locs
  have q4:=noteM_tot (decide (3<p.params.length)||decide (4<p.locs.length))
  have q5:=wN_len p.params
  have q6:=wN_len p.locs
  have c1_:=hs1.cap
  have x1_:=hs1.max
  have c2_:=hs2.cap
  have x2_:=hs2.max
  have e3:c0+cntN [m.nm]+cntN m.uses+noteM ((decide (3<m.uses.length)||decide (10<m.decls.length))||decide (6<m.procs.length))+declsC m.decls+procsC (m.procs.take j)+cntN [p.nm]+cntN p.params+cntN p.locs+noteM (decide (3<p.params.length)||decide (4<p.locs.length))+cntB p.body 1=c0+cntN [m.nm]+cntN m.uses+noteM ((decide (3<m.uses.length)||decide (10<m.decls.length))||decide (6<m.procs.length))+declsC m.decls+procsC (m.procs.take (j+1)):=by rw [procsC_take hpi,procC]; simp only [Cnt.add_assoc']
  have hq0:(c0+cntN [m.nm]+cntN m.uses+noteM ((decide (3<m.uses.length)||decide (10<m.decls.length))||decide (6<m.procs.length))+declsC m.decls+procsC (m.procs.take j)).tot+16+p.params.length+p.locs.length+8*wSs p.body≤1152921504606846976:=by simp only [Cnt.tot_add]; omega
  have hq1:(c0+cntN [m.nm]+cntN m.uses+noteM ((decide (3<m.uses.length)||decide (10<m.decls.length))||decide (6<m.procs.length))+declsC m.decls+procsC (m.procs.take j)+cntN [p.nm]).tot+16+p.params.length+p.locs.length+8*wSs p.body≤1152921504606846976:=by simp only [Cnt.tot_add]; omega
  have hq2:(c0+cntN [m.nm]+cntN m.uses+noteM ((decide (3<m.uses.length)||decide (10<m.decls.length))||decide (6<m.procs.length))+declsC m.decls+procsC (m.procs.take j)+cntN [p.nm]+cntN p.params).tot+16+p.params.length+p.locs.length+8*wSs p.body≤1152921504606846976:=by simp only [Cnt.tot_add]; omega
  have hq3:(c0+cntN [m.nm]+cntN m.uses+noteM ((decide (3<m.uses.length)||decide (10<m.decls.length))||decide (6<m.procs.length))+declsC m.decls+procsC (m.procs.take j)+cntN [p.nm]+cntN p.params+cntN p.locs).tot+16+p.params.length+p.locs.length+8*wSs p.body≤1152921504606846976:=by simp only [Cnt.tot_add]; omega
  have hq4:(c0+cntN [m.nm]+cntN m.uses+noteM ((decide (3<m.uses.length)||decide (10<m.decls.length))||decide (6<m.procs.length))+declsC m.decls+procsC (m.procs.take j)+cntN [p.nm]+cntN p.params+cntN p.locs+noteM (decide (3<p.params.length)||decide (4<p.locs.length))).tot+16+p.params.length+p.locs.length+8*wSs p.body≤1152921504606846976:=by simp only [Cnt.tot_add]; omega
  refine Ck (Et (Cs (Cb (Cs (Cr ?_)))))
  refine V0 (Yo es171 O O hap (by omega)) ?_
  refine V0 (yl_lda 0 ag213 O O O (hrow)) ?_
  refine Al Y O zr213 fun b7=>?_
  refine Lst 0 Y O O O sz213 O O O (Ln (Et (Cs (Cr (V0 (Ym O) (V0 (Yf fo213_0 O) (V0 (Yd 0 O O O na9) ?_)))))))
  refine Lb Y O el22 O O O O fun b62=>?_
  refine Lsv (T:=9) (m:=1) 0 [p.nm] O O (show 1≤1 by decide) (by decide) fun H62 hH62=>?_
  refine Lf 1 O ?_
  refine Lw0 [_] _ [blk b13 (.cells #[.int .i64 0,.int .i64 ((c0+cntN [m.nm]+cntN m.uses+noteM ((decide (3<m.uses.length)||decide (10<m.decls.length))||decide (6<m.procs.length))+declsC m.decls+procsC (m.procs.take j)+cntN [p.nm]).f:Int),.int .i64 ((c0+cntN [m.nm]+cntN m.uses+noteM ((decide (3<m.uses.length)||decide (10<m.decls.length))||decide (6<m.procs.length))+declsC m.decls+procsC (m.procs.take j)+cntN [p.nm]).m:Int),.int .i64 0,.int .i64 ((c0+cntN [m.nm]+cntN m.uses+noteM ((decide (3<m.uses.length)||decide (10<m.decls.length))||decide (6<m.procs.length))+declsC m.decls+procsC (m.procs.take j)+cntN [p.nm]).k:Int),.int .i64 0,.int .i64 0,.int .i64 0,.int .i64 0,.int .i64 0,.map (some be),.map (some bs)] 268 (0,0))] Y O en151 O O [H62] (by simp) (fun w hw=>names_any b13 be bs H62 _ _ [p.nm] (c0+cntN [m.nm]+cntN m.uses+noteM ((decide (3<m.uses.length)||decide (10<m.decls.length))||decide (6<m.procs.length))+declsC m.decls+procsC (m.procs.take j)) w hH62 (by show (c0+cntN [m.nm]+cntN m.uses+noteM ((decide (3<m.uses.length)||decide (10<m.decls.length))||decide (6<m.procs.length))+declsC m.decls+procsC (m.procs.take j)).tot+1≤_; omega) hw) ?_
  refine Ln (Et (Cs (Cr (V0 (Ym O) (V0 (Yf fo213_2 O) (V0 (Yd 1 O O O na22) (Lf 0 O ?_)))))))
  refine Lw0 [_] _ [blk b13 (.cells #[.int .i64 0,.int .i64 ((c0+cntN [m.nm]+cntN m.uses+noteM ((decide (3<m.uses.length)||decide (10<m.decls.length))||decide (6<m.procs.length))+declsC m.decls+procsC (m.procs.take j)+cntN [p.nm]+cntN p.params).f:Int),.int .i64 ((c0+cntN [m.nm]+cntN m.uses+noteM ((decide (3<m.uses.length)||decide (10<m.decls.length))||decide (6<m.procs.length))+declsC m.decls+procsC (m.procs.take j)+cntN [p.nm]+cntN p.params).m:Int),.int .i64 0,.int .i64 ((c0+cntN [m.nm]+cntN m.uses+noteM ((decide (3<m.uses.length)||decide (10<m.decls.length))||decide (6<m.procs.length))+declsC m.decls+procsC (m.procs.take j)+cntN [p.nm]+cntN p.params).k:Int),.int .i64 0,.int .i64 0,.int .i64 0,.int .i64 0,.int .i64 0,.map (some be),.map (some bs)] 268 (0,0))] Y O en151 O O [H] (by simp) (fun w hw=>names_any b13 be bs H pa1 pc1 p.params (c0+cntN [m.nm]+cntN m.uses+noteM ((decide (3<m.uses.length)||decide (10<m.decls.length))||decide (6<m.procs.length))+declsC m.decls+procsC (m.procs.take j)+cntN [p.nm]) w hs1 (by omega) hw) ?_
  refine Ln (Et (Cs (Cr (V0 (Ym O) (V0 (Yf fo213_3 O) (V0 (Yd 1 O O O na22) (Lf 0 O ?_)))))))
  refine Lw0 [_] _ [blk b13 (.cells #[.int .i64 0,.int .i64 ((c0+cntN [m.nm]+cntN m.uses+noteM ((decide (3<m.uses.length)||decide (10<m.decls.length))||decide (6<m.procs.length))+declsC m.decls+procsC (m.procs.take j)+cntN [p.nm]+cntN p.params+cntN p.locs).f:Int),.int .i64 ((c0+cntN [m.nm]+cntN m.uses+noteM ((decide (3<m.uses.length)||decide (10<m.decls.length))||decide (6<m.procs.length))+declsC m.decls+procsC (m.procs.take j)+cntN [p.nm]+cntN p.params+cntN p.locs).m:Int),.int .i64 0,.int .i64 ((c0+cntN [m.nm]+cntN m.uses+noteM ((decide (3<m.uses.length)||decide (10<m.decls.length))||decide (6<m.procs.length))+declsC m.decls+procsC (m.procs.take j)+cntN [p.nm]+cntN p.params+cntN p.locs).k:Int),.int .i64 0,.int .i64 0,.int .i64 0,.int .i64 0,.int .i64 0,.map (some be),.map (some bs)] 268 (0,0))] Y O en151 O O [H] (by simp) (fun w hw=>names_any b13 be bs H pa2 pc2 p.locs (c0+cntN [m.nm]+cntN m.uses+noteM ((decide (3<m.uses.length)||decide (10<m.decls.length))||decide (6<m.procs.length))+declsC m.decls+procsC (m.procs.take j)+cntN [p.nm]+cntN p.params) w hs2 (by omega) hw) ?_
  refine Ln (Et (Cs (Cr (V0 (Ym O) (V0 (Yf fo213_2 O) (V0 (Yd 1 O O O na22) (V0 (Yn es22 O) (V0 (yl_gt O O) ?_))))))))
  rw [int_lt3]
  refine V0 (Ym O) ?_
  apply Lo 4 O O O O Y O O O O O
  ·
   intro hg2
   refine Vg (Yf fo213_3 O) (Vg (Yd 1 O O O na22) (Vg (Yn es22 O) (Vg (yl_gt O O) ?_)))
   rw [int_lt4]
   exact Gt 4 O O O
  refine Lf 0 O ?_
  refine Lw0 [_] _ [blk b13 (.cells #[.int .i64 0,.int .i64 ((c0+cntN [m.nm]+cntN m.uses+noteM ((decide (3<m.uses.length)||decide (10<m.decls.length))||decide (6<m.procs.length))+declsC m.decls+procsC (m.procs.take j)+cntN [p.nm]+cntN p.params+cntN p.locs+noteM (decide (3<p.params.length)||decide (4<p.locs.length))).f:Int),.int .i64 ((c0+cntN [m.nm]+cntN m.uses+noteM ((decide (3<m.uses.length)||decide (10<m.decls.length))||decide (6<m.procs.length))+declsC m.decls+procsC (m.procs.take j)+cntN [p.nm]+cntN p.params+cntN p.locs+noteM (decide (3<p.params.length)||decide (4<p.locs.length))).m:Int),.int .i64 0,.int .i64 ((c0+cntN [m.nm]+cntN m.uses+noteM ((decide (3<m.uses.length)||decide (10<m.decls.length))||decide (6<m.procs.length))+declsC m.decls+procsC (m.procs.take j)+cntN [p.nm]+cntN p.params+cntN p.locs+noteM (decide (3<p.params.length)||decide (4<p.locs.length))).k:Int),.int .i64 0,.int .i64 0,.int .i64 0,.int .i64 0,.int .i64 0,.map (some be),.map (some bs)] 268 (0,0))] Y O en152 O O [] (by simp) (fun w hw=>note2_any b13 be bs (c0+cntN [m.nm]+cntN m.uses+noteM ((decide (3<m.uses.length)||decide (10<m.decls.length))||decide (6<m.procs.length))+declsC m.decls+procsC (m.procs.take j)+cntN [p.nm]+cntN p.params+cntN p.locs) (decide (3<p.params.length)||decide (4<p.locs.length)) w (by omega) hw) ?_
  refine Ln (Et (Cr (V0 (Ym O) (V0 (Yf fo213_4 O) (V0 (Yd 1 O O O na172) (Lf 3 O (Lf 3 O ?_)))))))
  refine Lf 2 O ?_
  refine Lw0 [_,_,_] _ [blk b13 (.cells #[.int .i64 0,.int .i64 ((c0+cntN [m.nm]+cntN m.uses+noteM ((decide (3<m.uses.length)||decide (10<m.decls.length))||decide (6<m.procs.length))+declsC m.decls+procsC (m.procs.take j)+cntN [p.nm]+cntN p.params+cntN p.locs+noteM (decide (3<p.params.length)||decide (4<p.locs.length))+cntB p.body 1).f:Int),.int .i64 ((c0+cntN [m.nm]+cntN m.uses+noteM ((decide (3<m.uses.length)||decide (10<m.decls.length))||decide (6<m.procs.length))+declsC m.decls+procsC (m.procs.take j)+cntN [p.nm]+cntN p.params+cntN p.locs+noteM (decide (3<p.params.length)||decide (4<p.locs.length))+cntB p.body 1).m:Int),.int .i64 0,.int .i64 ((c0+cntN [m.nm]+cntN m.uses+noteM ((decide (3<m.uses.length)||decide (10<m.decls.length))||decide (6<m.procs.length))+declsC m.decls+procsC (m.procs.take j)+cntN [p.nm]+cntN p.params+cntN p.locs+noteM (decide (3<p.params.length)||decide (4<p.locs.length))+cntB p.body 1).k:Int),.int .i64 0,.int .i64 0,.int .i64 0,.int .i64 0,.int .i64 0,.map (some be),.map (some bs)] 268 (0,0)),blk be (gobj kI (exprsK 9) 15),blk bs (gobj kI stmtsK 7)] Y O en154 O O [H] (by simp) (fun w hw=>vblock_any b13 be bs H ke ks (p.body) pa3 pc3 1 (c0+cntN [m.nm]+cntN m.uses+noteM ((decide (3<m.uses.length)||decide (10<m.decls.length))||decide (6<m.procs.length))+declsC m.decls+procsC (m.procs.take j)+cntN [p.nm]+cntN p.params+cntN p.locs+noteM (decide (3<p.params.length)||decide (4<p.locs.length))) w hs3 (by omega) hw) ?_
  refine Ln (Eb (Et (Cr ?_)))
  refine V0 (Yi O O O (by omega)) ?_
  refine V0 (Ym O) (Ln ?_)
  rw [e3]
  exact Ea (j+1) (by omega) (by omega) (sc O (sc O (sc O (sc O (sc O (sc O sn)))))) (fun _ h=>by exact (Wv 1 (Wt 4 ((((h.f 4 O).f 3 O).f 3 O).f 3 O)):))
 have hge2:¬j<m.procs.length:=by simpa using hc1
 rw [List.take_of_length_le (by omega)]
 refine Ce (Ex (Ex (Ebh (Et (Cs (Cr (V0 (Ym O) (V0 (Yf fo174_4 O) (V0 (Yd 3 O O O na172) (Lf 2 O ?_))))))))))
 refine Lf 2 O (Lf 2 O ?_)
 refine Lw0 [_,_,_] _ [blk b13 (.cells #[.int .i64 0,.int .i64 ((c0+cntN [m.nm]+cntN m.uses+noteM ((decide (3<m.uses.length)||decide (10<m.decls.length))||decide (6<m.procs.length))+declsC m.decls+procsC m.procs+cntB m.main 1).f:Int),.int .i64 ((c0+cntN [m.nm]+cntN m.uses+noteM ((decide (3<m.uses.length)||decide (10<m.decls.length))||decide (6<m.procs.length))+declsC m.decls+procsC m.procs+cntB m.main 1).m:Int),.int .i64 0,.int .i64 ((c0+cntN [m.nm]+cntN m.uses+noteM ((decide (3<m.uses.length)||decide (10<m.decls.length))||decide (6<m.procs.length))+declsC m.decls+procsC m.procs+cntB m.main 1).k:Int),.int .i64 0,.int .i64 0,.int .i64 0,.int .i64 0,.int .i64 0,.map (some be),.map (some bs)] 268 (0,0)),blk be (gobj kI (exprsK 9) 15),blk bs (gobj kI stmtsK 7)] Y O en154 O O [H] (by simp) (fun w hw=>vblock_any b13 be bs H ke ks (m.main) r.a4 r.c4 1 (c0+cntN [m.nm]+cntN m.uses+noteM ((decide (3<m.uses.length)||decide (10<m.decls.length))||decide (6<m.procs.length))+declsC m.decls+procsC m.procs) w hm.main (by omega) hw) ?_
 refine Ln (Et (Cs (Cs (Cr (V0 (yl_builda zr271 ar271 O O) (V0 (Ym O) (Ln (Et (Cb ?_)))))))))
 refine CLk (ι:=Nat) (fun i=>[(94,.int .i64 (i:Int))]) [(3,_),(93,_)] (fun i=>Ws w [] [blk b13 (.cells #[.int .i64 0,.int .i64 ((c0+cntN [m.nm]+cntN m.uses+noteM ((decide (3<m.uses.length)||decide (10<m.decls.length))||decide (6<m.procs.length))+declsC m.decls+procsC m.procs+cntB m.main 1).f:Int),.int .i64 ((c0+cntN [m.nm]+cntN m.uses+noteM ((decide (3<m.uses.length)||decide (10<m.decls.length))||decide (6<m.procs.length))+declsC m.decls+procsC m.procs+cntB m.main 1).m:Int),.int .i64 0,.int .i64 ((c0+cntN [m.nm]+cntN m.uses+noteM ((decide (3<m.uses.length)||decide (10<m.decls.length))||decide (6<m.procs.length))+declsC m.decls+procsC m.procs+cntB m.main 1).k:Int),.int .i64 0,.int .i64 0,.int .i64 0,.int .i64 0,.int .i64 0,.map (some be),.map (some bs)] 268 (0,0)),blk be (gobj kI (exprsK 9) 15),blk bs (gobj kI stmtsK 7),blk b1 (.cells (modV m r).toArray 174 (0,0))] [H]) (fun i=>i≤3∧∀j,j<i→cE (c0+cntN [m.nm]+cntN m.uses+noteM ((decide (3<m.uses.length)||decide (10<m.decls.length))||decide (6<m.procs.length))+declsC m.decls+procsC m.procs+cntB m.main 1) j=0) (fun i=>3-i) 0 ⟨Nat.zero_le _,by simp⟩ (sc O (sc O (sc O sn))) (fun _ h=>h) ?_
 intro i ⟨hi,hall⟩
 refine Cs (Cr (V0 (yl_lt O O) (Ln (Et (Cs ?_)))))
 refine Cc O (fun hc2=>?_) (fun hc2=>?_)
 ·
  have hlt:i<3:=by simp at hc2; omega
  refine Ck (Et (Cs (Cb (Cs (Cr (V0 (yl_ixa (i:=i) ara271 O O hlt (eN_get hlt)) (V0 (Ya O) (Ln (Et (Cs (Cr (V0 (Ym O) (V0 (Ym O) ?_)))))))))))))
  refine V0 (yl_nil O) (V0 (Yf fo268_0 O) (V0 (yl_iar (i:=eN i) ar266 O O (eN_lt i)) (V0 (Yd 0 O O (found_get hlt) na3) (V0 (yl_gt O O) (Ln (Et ?_))))))
  refine Cc O (fun hc3=>?_) (fun hc3=>?_)
  ·
   have hpos:0<cE (c0+cntN [m.nm]+cntN m.uses+noteM ((decide (3<m.uses.length)||decide (10<m.decls.length))||decide (6<m.procs.length))+declsC m.decls+procsC m.procs+cntB m.main 1) i:=by simpa using hc3
   refine Cs (Cr (V0 (Ym O) (V0 (Ya O) (Ln (Et (Crt (Ebr (Er (Er (Ebr (Er ?_)))))))))))
   refine R1 O O fun w' hw=>?_
   refine ⟨?_,hw.fr⟩
   rw [err_at hlt hall hpos,show c0+cntN [m.nm]+cntN m.uses+noteM ((decide (3<m.uses.length)||decide (10<m.decls.length))||decide (6<m.procs.length))+declsC m.decls+procsC m.procs+cntB m.main 1=modC m by rw [modC,c0_add]]
   rfl
  have hzero:cE (c0+cntN [m.nm]+cntN m.uses+noteM ((decide (3<m.uses.length)||decide (10<m.decls.length))||decide (6<m.procs.length))+declsC m.decls+procsC m.procs+cntB m.main 1) i=0:=by simp at hc3; omega
  refine Ck (Eb (Et (Cr ?_)))
  refine V0 (Yi O O O (by omega)) ?_
  refine V0 (Ym O) (Ln ?_)
  exact Ea (i+1) (by omega) ⟨by omega,fun j hj=>by rcases Nat.lt_succ_iff_lt_or_eq.1 hj with h | rfl; exact hall j h; exact hzero⟩ (sc rfl (sc rfl (sc rfl sn))) (fun _ h=>h)
 have hge3:¬i<3:=by simp at hc2; omega
 refine Ce (Ex (Ex (Ebh (Et (Cs (Cr (V0 (Ya O) (Ln (Et (Crt ?_))))))))))
 refine R1 O O fun w' hw=>?_
 refine ⟨?_,hw.fr⟩
 rw [checkM,show modC m=c0+cntN [m.nm]+cntN m.uses+noteM ((decide (3<m.uses.length)||decide (10<m.decls.length))||decide (6<m.procs.length))+declsC m.decls+procsC m.procs+cntB m.main 1 by rw [modC,c0_add],err_none fun j hj=>hall j (by omega)]
theorem zr314:zeroOf Tryz.prog 314=some (.agg #[st [],st [],st [],st [],st [],st [],st [],st [],st []]):=by kernel_rfl
theorem ar314:arrP Tryz.prog 314=some (9,1):=by kernel_rfl
theorem sz314:sizeP Tryz.prog 314=some 9:=by kernel_rfl
theorem ag314:aggOf Tryz.prog 314=some 9:=by kernel_rfl
theorem ops_any (w:World) :
   Calls Tryz.prog 201 #[] w fun e w'=>e = .returned (.agg (opsL.map st).toArray)∧Ext w w':=by
 refine enter Tryz.func201 O 2 O O ?_
 refine CE (Vs:=[]) (Ws.init (by simp)) ?_
 refine Cs (Cr ?_)
 refine Al Y O zr314 fun b0=>?_
 refine Ln (Et (Cs (Cr (V0 (yl_builda zr314 ar314 O O) (Lst 0 Y O O O sz314 O O O (Ln (Et (Crt ?_))))))))
 refine WE.retR (rs_1 O (rv_agg 0 O O ag314 O)) fun w' hw=>?_
 exact ⟨O,hw.fr⟩
abbrev glassL (gb:Nat) (r:Option Addr×Nat) (l:Tk):List Asr:=[blk gb (.cells #[.slice r.1 l.length r.2] 228 (0,0))]
def brk:List PanicEntry:=[⟨.iface 230 (.agg #[]),false,false⟩]
def mustT:List Tx→Tk→Option Tk
 | [],l=>some l
 | w::ws,l=>(hasT w l).bind (mustT ws)
theorem must1 (w:Tx) (l:Tk):mustT [w] l=hasT w l:=by unfold mustT; cases hasT w l<;>rfl
theorem must2 (v w:Tx) (l:Tk):mustT [v,w] l=(hasT v l).bind (hasT w):=by
 unfold mustT
 cases hasT v l with
 | none=>rfl
 | some q=>exact must1 w q
theorem mustT_ok:∀{ws:List Tx} {l r:Tk},AllOk l→mustT ws l=some r→AllOk r
 | [],l,r,hl,h=>by injection h with h; subst h; exact hl
 | w::ws,l,r,hl,h=>by
   obtain ⟨q,h1,h2⟩:=Option.bind_eq_some_iff.1 h
   exact mustT_ok (hasT_ok hl h1) h2
theorem hasT_cons (s:Tx) (t:Tok) (r:Tk):hasT s (t::r)=if (t.text==s)=true then some r else none:=rfl
theorem hasT_len {s:Tx} {l q:Tk} (h:hasT s l=some q):q.length+1=l.length:=by
 cases l with
 | nil=>cases h
 | cons t r=>
   rw [hasT_cons] at h
   split at h
   · injection h with h; subst h; rfl
   · cases h
theorem mustT_cons_some {w:Tx} {ws:List Tx} {l q:Tk} (h:hasT w l=some q):mustT (w::ws) l=mustT ws q:=by show (hasT w l).bind (mustT ws)=_; rw [h]; rfl
theorem mustT_cons_none {w:Tx} {ws:List Tx} {l:Tk} (h:hasT w l=none):mustT (w::ws) l=none:=by show (hasT w l).bind (mustT ws)=_; rw [h]; rfl
structure TOk (l:Tk):Prop where
 all:AllOk l
 len:l.length≤4096
theorem tEats {l r:Tk} {ws:List Tx} (h:TOk l) (e:Eats l ws r):TOk r:=⟨e.ok,by have:=h.len; rw [e.2,List.length_append] at this; omega⟩
theorem tHas {s:Tx} {l r:Tk} (h:TOk l) (e:hasT s l=some r):TOk r:=⟨hasT_ok h.all e,by have:=hasT_len e; have:=h.len; omega⟩
theorem mustT_len:∀{ws:List Tx} {l q:Tk},mustT ws l=some q→q.length+ws.length=l.length
 | [],l,q,h=>by injection h with h; subst h; rfl
 | w::ws,l,q,h=>by
   obtain ⟨q1,h1,h2⟩:=Option.bind_eq_some_iff.1 h
   have:=hasT_len h1; have:=mustT_len h2
   simp only [List.length_cons]
   omega
theorem tMust {ws:List Tx} {l r:Tk} (h:TOk l) (e:mustT ws l=some r):TOk r:=⟨mustT_ok h.all e,by have:=mustT_len e; have:=h.len; omega⟩
theorem tNam {l r:Tk} {a:Tx} (h:TOk l) (e:namP l=some (a,r)):TOk r:=tEats h (namP_eats h.all e).1
theorem tNum {l r:Tk} {a:Int} (h:TOk l) (e:numP l=some (a,r)):TOk r:=tEats h (numP_eats h.all e)
theorem tRef {l r:Tk} {p:Tx×Tx} (h:TOk l) (e:refP l=some (p,r)):TOk r:=tEats h (refP_eats (mod:=p.1) (nm:=p.2) h.all e)
theorem tExpr {l r:Tk} {f:Nat} {x:TExpr} (h:TOk l) (e:exprP f l=some (x,r)):TOk r:=tEats h (exprP_eats f l x r h.all e)
theorem expr_len {l r:Tk} {f:Nat} {x:TExpr} (h:TOk l) (e:exprP f l=some (x,r)):r.length+1≤l.length:=by
 have h1:=(exprP_eats f l x r h.all e).2
 have h2:=exprW_ne x
 rw [h1]
 cases hw:exprW x with
 | nil=>exact absurd hw h2
 | cons y t=>simp
theorem drop_get {ws:List Tx} {i:Nat} {x:Tx} (h:ws[i]? = some x):ws.drop i=x::ws.drop (i+1):=by
 obtain ⟨hi,e⟩:=List.getElem?_eq_some_iff.1 h
 rw [←e]
 exact List.drop_eq_getElem_cons hi
theorem es223:elemSz Tryz.prog 223=some 3:=by kernel_rfl
theorem fo228_0:fieldOff Tryz.prog 228 0=some 0:=by kernel_rfl
theorem na223:nonAgg Tryz.prog 223=true:=by kernel_rfl
theorem fo255_2:fieldOff Tryz.prog 255 2=some 2:=by kernel_rfl
theorem sz223:sizeP Tryz.prog 223=some 1:=by kernel_rfl
theorem en145:Enters Tryz.prog 145:=enters_of Tryz.func145 (by kernel_rfl) rfl
theorem pl230:placesP Tryz.prog 230=some []:=by kernel_rfl
theorem zr230:zeroOf Tryz.prog 230=some (.agg #[]):=by kernel_rfl
theorem co230:Tryz.prog.concrete 230=true:=by kernel_rfl
theorem fo255_0:fieldOff Tryz.prog 255 0=some 0:=by kernel_rfl
theorem en169:Enters Tryz.prog 169:=enters_of Tryz.func169 (by kernel_rfl) rfl
theorem fld255_2:fld1 Tryz.prog 255 2=some 2:=by kernel_rfl
theorem fld255_1:fld1 Tryz.prog 255 1=some 1:=by kernel_rfl
theorem en144:Enters Tryz.prog 144:=enters_of Tryz.func144 (by kernel_rfl) rfl
theorem has_any (gb:Nat) (HT:View) (r:Option Addr×Nat) (l:Tk) (s:Tx) (w:World) (hm:Sl rdTok 3 HT r.1 r.2 l) (hw:Ws w (List.flatMap Asr.ids (glassL gb r l)) (glassL gb r l) [HT] w) :
   Calls Tryz.prog 145 #[.pointer (some ⟨gb,0,none⟩),st s] w fun e w'=>∃i:Bool×(Option Addr×Nat)×Tk,e = .returned (.bool i.1)∧((i.1=true→hasT s l=some i.2.2)∧(i.1=false→hasT s l=none∧l=i.2.2)∧Sl rdTok 3 HT i.2.1.1 i.2.1.2 i.2.2)∧Ws w (List.flatMap Asr.ids (glassL gb r l)) (glassL gb i.2.1 i.2.2) [HT] w':=by
 have hcap:=hm.cap
 have hmax:=hm.max
 have hd1:=hm.drop 1
 refine enter Tryz.func145 O 33 O O ?_
 refine CE hw ?_
 refine Cs (Cr (V0 (Ya O) (Ln (Et (Cs (Cr (V0 (Ym O) (V0 (yl_nil O) (V0 (Yf fo228_0 O) ?_)))))))))
 refine V0 (Yd 0 O O O na223) (V0 (Yn es223 O) (V0 (yl_gt O O) (V0 (Ym O) ?_)))
 apply La 9 (x:=((l.head?.map fun t=>t.text==s).getD false)) O O O O Y O O O O O
 ·
  intro hg0
  obtain ⟨t,r0,rfl⟩:∃t r0,l=t::r0:=by
    cases l with
    | nil=>simp at hg0
    | cons t r0=>exact ⟨t,r0,rfl⟩
  obtain ⟨pbt,pot,hat,hrt⟩:=hm.elt 0 t rfl
  have hrt:RdC HT pbt (pot+0*3) t.cells:=hrt
  refine Vg (Ym O) (Vg (yl_nil O) (Vg (Yf fo228_0 O) (Vg (Yd 0 O O O na223) ?_)))
  refine Vg (Yo (i:=0) es223 O O hat (by simp)) ?_
  refine Vg (Yf fo255_2 O) (Vg (yl_ld 0 na9 O O (hrt 2 _ O)) (Vg (Ym O) (Vg (yl_eqs O O) ?_)))
  exact Gt 9 O O O
 refine V0 (Ya O) (Ln (Et (Cs (Cs (Cr (V0 (Ym O) (Ln (Et ?_))))))))
 refine Cc O (fun hc0=>?_) (fun hc0=>?_)
 ·
  obtain ⟨t,r0,rfl⟩:∃t r0,l=t::r0:=by
    cases l with
    | nil=>simp at hc0
    | cons t r0=>exact ⟨t,r0,rfl⟩
  have heq:(t.text==s)=true:=by simpa using hc0
  have hd1:=hd1 (by simp)
  refine Cr (V0 (Ym O) (V0 (Ym O) (V0 (yl_nil O) (V0 (Yf fo228_0 O) (V0 (Yd 0 O O O na223) ?_)))))
  refine V0 (yl_slln 1 es223 O O O (by simp) hcap) ?_
  refine V0 (yl_nil O) (V0 (Yf fo228_0 O) (Lst 0 Y O O O sz223 O O O (Ln (Et (Cs (Cr (V0 (Ym O) (V0 (Ya O) ?_))))))))
  refine Ln (Et (Crt ?_))
  refine R1 O O fun w' hw=>?_
  exact ⟨(true,(if r.2-1=0 then r.1 else r.1.map (·.add (1*3)),r.2-1),r0),by rw [hc0],⟨fun _=>by rw [hasT_cons,if_pos heq],fun h=>(by cases h),hd1⟩,hw⟩
 have hno:hasT s l=none:=by
   cases l with
   | nil=>rfl
   | cons t r0=>rw [hasT_cons,if_neg]; intro h; simp [h] at hc0
 refine Ck (Et (Cs (Cr (V0 (Ym O) (V0 (Ya O) (Ln (Et (Crt ?_))))))))
 refine R1 O O fun w' hw=>?_
 exact ⟨(false,r,l),by rw [hc0],⟨fun h=>(by cases h),fun _=>⟨hno,O⟩,hm⟩,hw⟩
theorem must_any (gb:Nat) (HT:View) (r:Option Addr×Nat) (l:Tk) (H:View) (a:Option Addr) (n:Nat) (ws:List Tx) (w:World) (hs:Sl rdStr 1 H a n ws) (hm:Sl rdTok 3 HT r.1 r.2 l) (hw:Ws w (List.flatMap Asr.ids (glassL gb r l)) (glassL gb r l) [HT,H] w) :
   Calls Tryz.prog 143 #[.pointer (some ⟨gb,0,none⟩),.slice a ws.length n] w fun e w'=>(∃(r2:Option Addr×Nat) (q:Tk),e = .returned (.tuple #[])∧mustT ws l=some q∧Sl rdTok 3 HT r2.1 r2.2 q∧Ws w (List.flatMap Asr.ids (glassL gb r l)) (glassL gb r2 q) [HT,H] w')∨(∃(r2:Option Addr×Nat) (q:Tk),e = .panicked brk∧mustT ws l=none∧Ws w (List.flatMap Asr.ids (glassL gb r l)) (glassL gb r2 q) [HT,H] w'):=by
 have hcap:=hs.cap
 have hmax:=hs.max
 refine enter Tryz.func143 O 19 O O ?_
 refine CE hw ?_
 refine Cs (Cr (V0 (Ym O) (V0 (Yn es22 O) (V0 (Ym O) (Ln (Et (Cb ?_)))))))
 refine CLk (ι:=Nat×(Option Addr×Nat)×Tk) (fun g=>[(8,.int .i64 (g.1:Int))]) [(0,_),(6,_),(7,_)] (fun g=>Ws w (List.flatMap Asr.ids (glassL gb r l)) (glassL gb g.2.1 g.2.2) [HT,H]) (fun g=>g.1≤ws.length∧mustT ws l=mustT (ws.drop g.1) g.2.2∧Sl rdTok 3 HT g.2.1.1 g.2.1.2 g.2.2) (fun g=>ws.length-g.1) (0,r,l) ⟨Nat.zero_le _,O,hm⟩ (sc O (sc O (sc O (sc O sn)))) (fun _ h=>h) ?_
 intro g ⟨hi,hR,hmg⟩
 refine Cs (Cr (V0 (yl_lt O O) (Ln (Et (Cs ?_)))))
 refine Cc O (fun hc0=>?_) (fun hc0=>?_)
 ·
  have hlt:g.1<ws.length:=by simpa using hc0
  obtain ⟨x,hxi⟩:∃x,ws[g.1]? = some x:=⟨_,List.getElem?_eq_getElem hlt⟩
  obtain ⟨pbx,pox,ha,hrow⟩:=hs.elt g.1 x hxi
  have hrow:RdC H pbx (pox+g.1*1) (strC x):=hrow
  have hdr:=drop_get hxi
  refine Ck (Et (Cs (Cb (Cs (Cr ?_)))))
  refine V0 (Yo es22 O O (by assumption) (by omega)) ?_
  refine V0 (yl_ld 1 na9 O O (hrow 0 _ O)) (V0 (Ya O) (Ln (Et (Cs (Cr (V0 (Ym O) (V0 (Ym O) (Lf 0 O ?_))))))))
  refine Lw (ι:=Bool×(Option Addr×Nat)×Tk) [_] _ Y O en145 O O (fun i=>.bool i.1) (fun i=>glassL gb i.2.1 i.2.2) (fun i=>(i.1=true→hasT x g.2.2=some i.2.2)∧(i.1=false→hasT x g.2.2=none∧g.2.2=i.2.2)∧Sl rdTok 3 HT i.2.1.1 i.2.1.2 i.2.2) [HT] (by simp) (fun w hw=>has_any gb HT g.2.1 g.2.2 x w hmg hw) ?_
  intro ⟨b14,r14,q14⟩ ⟨h14t,h14f,hm14⟩
  refine V0 (yl_not O) (Ln (Et ?_))
  refine Cc O (fun hc1=>?_) (fun hc1=>?_)
  ·
   obtain ⟨hn14,hl14⟩:=h14f (by simpa using hc1)
   refine Cr (V0 (Yb zr230 pl230 O O) (V0 (yl_mki co230 O) ?_))
   refine WL.panic Y O ?_
   refine WE.block_panic (Ep (Ep (WE.block_panic ?_)))
   refine Epp fun w' hw=>?_
   exact .inr ⟨r14,q14,O,by rw [hR,hdr,mustT_cons_none hn14],(by have h:=hw; exact h)⟩
  have hq14:=h14t (by simpa using hc1)
  refine Ck (Eb (Et (Cr ?_)))
  refine V0 (Yi O O O (by omega)) ?_
  refine V0 (Ym O) (Ln ?_)
  exact Ea ((g.1+1,r14,q14):Nat×(Option Addr×Nat)×Tk) (by show ws.length-(g.1+1)<ws.length-g.1; omega) ⟨by show g.1+1≤ws.length; omega,by rw [hR,hdr,mustT_cons_some hq14],hm14⟩ (sc O (sc O (sc O (sc O sn)))) (fun _ h=>h)
 have hge:¬g.1<ws.length:=by simpa using hc0
 rw [List.drop_eq_nil_of_le (by omega)] at hR
 refine Ce (Ex (Ex (Ebh ?_)))
 refine E0 O fun w' hw=>?_
 exact .inl ⟨g.2.1,g.2.2,O,by rw [hR]; rfl,hmg,hw⟩
theorem next_any (gb:Nat) (HT:View) (r:Option Addr×Nat) (l:Tk) (k:Int) (w:World) (hm:Sl rdTok 3 HT r.1 r.2 l) (hw:Ws w (List.flatMap Asr.ids (glassL gb r l)) (glassL gb r l) [HT] w) :
   Calls Tryz.prog 169 #[.pointer (some ⟨gb,0,none⟩),.int .i64 k] w fun e w'=>(∃(t:Tok) (r2:Option Addr×Nat) (q:Tk),e = .returned (.agg #[.int .i64 t.kind,.int .i64 t.n,st t.text])∧nextT k l=some (t,q)∧Sl rdTok 3 HT r2.1 r2.2 q∧Ws w (List.flatMap Asr.ids (glassL gb r l)) (glassL gb r2 q) [HT] w')∨(∃(r2:Option Addr×Nat) (q:Tk),e = .panicked brk∧nextT k l=none∧Ws w (List.flatMap Asr.ids (glassL gb r l)) (glassL gb r2 q) [HT] w'):=by
 have hcap:=hm.cap
 have hmax:=hm.max
 have hd1:=hm.drop 1
 refine enter Tryz.func169 O 40 O O ?_
 refine CE hw ?_
 refine Cs (Cr ?_)
 refine Al Y O zr255 fun b4=>?_
 refine Ln (Et (Cs (Cs (Cr (V0 (Ym O) (V0 (yl_nil O) (V0 (Yf fo228_0 O) (V0 (Yd 1 O O O na223) (V0 (Yn es223 O) ?_)))))))))
 refine V0 (yl_eq O O) (V0 (Ym O) ?_)
 apply Lo 9 (x:=(!((l.head?.map fun t=>t.kind==k).getD false))) O O O O Y O O O O O
 ·
  intro hg0
  obtain ⟨t,r0,rfl⟩:∃t r0,l=t::r0:=by
    cases l with
    | nil=>simp at hg0
    | cons t r0=>exact ⟨t,r0,rfl⟩
  obtain ⟨pbt,pot,hat,hrt⟩:=hm.elt 0 t rfl
  have hrt:RdC HT pbt (pot+0*3) t.cells:=hrt
  refine Vg (Ym O) (Vg (yl_nil O) (Vg (Yf fo228_0 O) (Vg (Yd 1 O O O na223) ?_)))
  refine Vg (Yo (i:=0) es223 O O hat (by simp)) ?_
  refine Vg (Yf fo255_0 O) (Vg (yl_ld 0 na3 O O (hrt 0 _ O)) (Vg (Ym O) (Vg (yl_ne O O) ?_)))
  exact Gt 9 O O O
 refine Ln (Et ?_)
 refine Cc O (fun hc0=>?_) (fun hc0=>?_)
 ·
  have hno:nextT k l=none:=by
    cases l with
    | nil=>rfl
    | cons t r0=>
      simp only [nextT]
      rw [if_neg]
      intro h
      simp [h] at hc0
      omega
  refine Cr (V0 (Yb zr230 pl230 O O) (V0 (yl_mki co230 O) ?_))
  refine WL.panic Y O ?_
  refine Ep ?_
  refine Epp fun w' hw=>?_
  exact .inr ⟨r,l,O,hno,(by have h:=hw; have h:=h.fronti 1 O; have h:=Wt 1 h; exact h)⟩
 obtain ⟨t,r0,rfl⟩:∃t r0,l=t::r0:=by
   cases l with
   | nil=>simp at hc0
   | cons t r0=>exact ⟨t,r0,rfl⟩
 have hk:t.kind=k:=by simp at hc0; exact hc0.2
 have hyes:nextT k (t::r0)=some (t,r0):=by simp only [nextT]; rw [if_pos hk]
 have hd1:=hd1 (by simp)
 obtain ⟨pbt,pot,hat,hrt⟩:=hm.elt 0 t rfl
 have hrt:RdC HT pbt (pot+0*3) t.cells:=hrt
 refine Ck (Et (Cs (Cr (V0 (Ym O) (V0 (yl_nil O) (V0 (Yf fo228_0 O) (V0 (Yd 1 O O O na223) ?_)))))))
 refine V0 (Yo (i:=0) es223 O O hat (by simp)) ?_
 refine V0 (yl_lda 0 ag255 O O O (hrt)) ?_
 refine Al Y O zr255 fun b5=>?_
 refine Lst 0 Y O O O sz255 O O O (Ln (Et (Cs (Cr (V0 (Ym O) (V0 (Ym O) (V0 (yl_nil O) (V0 (Yf fo228_0 O) ?_))))))))
 refine V0 (Yd 2 O O O na223) ?_
 refine V0 (yl_slln 1 es223 O O O (by simp) hcap) ?_
 refine V0 (yl_nil O) (V0 (Yf fo228_0 O) (Lst 2 Y O O O sz223 O O O (Ln (Et (Cs (Cr (V0 (Yda 0 O O ag255 O) (Lst 1 Y O O O sz255 O O O ?_))))))))
 refine Ln (Et (Crt ?_))
 refine WE.retR (rs_1 O (rv_agg 1 O O ag255 O)) fun w' hw=>?_
 exact .inl ⟨t,(if r.2-1=0 then r.1 else r.1.map (·.add (1*3)),r.2-1),r0,O,hyes,hd1,Wd 2 hw⟩
theorem gname_any (gb:Nat) (HT:View) (r:Option Addr×Nat) (l:Tk) (w:World) (hm:Sl rdTok 3 HT r.1 r.2 l) (hw:Ws w (List.flatMap Asr.ids (glassL gb r l)) (glassL gb r l) [HT] w) :
   Calls Tryz.prog 144 #[.pointer (some ⟨gb,0,none⟩)] w fun e w'=>(∃(s:Tx) (r2:Option Addr×Nat) (q:Tk),e = .returned (st s)∧namP l=some (s,q)∧Sl rdTok 3 HT r2.1 r2.2 q∧Ws w (List.flatMap Asr.ids (glassL gb r l)) (glassL gb r2 q) [HT] w')∨(∃(r2:Option Addr×Nat) (q:Tk),e = .panicked brk∧namP l=none∧Ws w (List.flatMap Asr.ids (glassL gb r l)) (glassL gb r2 q) [HT] w'):=by
 refine enter Tryz.func144 O 13 O O ?_
 refine CE hw ?_
 refine Cs (Cr (V0 (Ya O) (Ln (Et (Cs (Cr (V0 (Ym O) (Lf 0 O ?_))))))))
 refine Lwx (ι:=Tok×(Option Addr×Nat)×Tk) (κ:=(Option Addr×Nat)×Tk) [_] _ Y O en169 O O (fun i=>.agg #[.int .i64 i.1.kind,.int .i64 i.1.n,st i.1.text]) (fun i=>glassL gb i.2.1 i.2.2) (fun i=>nextT 1 l=some (i.1,i.2.2)∧Sl rdTok 3 HT i.2.1.1 i.2.1.2 i.2.2) (fun _=>brk) (fun i=>glassL gb i.1 i.2) (fun _=>nextT 1 l=none) ([HT]) (by simp) (fun w hw=>(next_any gb HT r l 1 w hm hw).mono fun e w' h=>by
     rcases h with ⟨t,r2,q,h1,h2,h3,h4⟩ | ⟨r2,q,h1,h2,h3⟩
     · exact .inl ⟨(t,r2,q),h1,⟨h2,h3⟩,h4⟩
     · exact .inr ⟨(r2,q),h1,h2,h3⟩) ?_ ?_
 ·
  intro ⟨rp,qp⟩ hp
  refine Ep ?_
  refine Epp fun w' hw=>?_
  exact .inr ⟨rp,qp,O,by unfold namP; rw [hp]; rfl,(by have h:=hw; exact h)⟩
 intro ⟨t5,r5,q5⟩ ⟨hq5,hm5⟩
 refine V0 (yl_field fld255_2 O O) (V0 (Ya O) (Ln (Et (Cs (Cs (Cr (V0 (Ym O) ?_)))))))
 refine Lp Y O en170 O (fun w hw=>treeName_any _ w) ?_
 refine V0 (yl_not O) (Ln (Et ?_))
 refine Cc O (fun hc0=>?_) (fun hc0=>?_)
 ·
  have hno:namP l=none:=by unfold namP; rw [hq5]; simp only [Option.bind_some]; rw [if_neg (by simpa using hc0)]
  refine Cr (V0 (Yb zr230 pl230 O O) (V0 (yl_mki co230 O) ?_))
  refine WL.panic Y O ?_
  refine Ep ?_
  refine Epp fun w' hw=>?_
  exact .inr ⟨r5,q5,O,hno,(by have h:=hw; exact h)⟩
 have hyes:namP l=some (t5.text,q5):=by unfold namP; rw [hq5]; simp only [Option.bind_some]; rw [if_pos (by simpa using hc0)]
 refine Ck (Et (Cs (Cr (V0 (Ym O) (V0 (Ya O) (Ln (Et (Crt ?_))))))))
 refine R1 O O fun w' hw=>?_
 exact .inl ⟨t5.text,r5,q5,O,hyes,hm5,hw⟩
theorem gnum_any (gb:Nat) (HT:View) (r:Option Addr×Nat) (l:Tk) (w:World) (hm:Sl rdTok 3 HT r.1 r.2 l) (hw:Ws w (List.flatMap Asr.ids (glassL gb r l)) (glassL gb r l) [HT] w) :
   Calls Tryz.prog 171 #[.pointer (some ⟨gb,0,none⟩)] w fun e w'=>(∃(n:Int) (r2:Option Addr×Nat) (q:Tk),e = .returned (.int .i64 n)∧numP l=some (n,q)∧Sl rdTok 3 HT r2.1 r2.2 q∧Ws w (List.flatMap Asr.ids (glassL gb r l)) (glassL gb r2 q) [HT] w')∨(∃(r2:Option Addr×Nat) (q:Tk),e = .panicked brk∧numP l=none∧Ws w (List.flatMap Asr.ids (glassL gb r l)) (glassL gb r2 q) [HT] w'):=by
 refine enter Tryz.func171 O 6 O O ?_
 refine CE hw ?_
 refine Cs (Cr (V0 (Ya O) (Ln (Et (Cs (Cr (V0 (Ym O) (Lf 0 O ?_))))))))
 refine Lwx (ι:=Tok×(Option Addr×Nat)×Tk) (κ:=(Option Addr×Nat)×Tk) [_] _ Y O en169 O O (fun i=>.agg #[.int .i64 i.1.kind,.int .i64 i.1.n,st i.1.text]) (fun i=>glassL gb i.2.1 i.2.2) (fun i=>nextT 2 l=some (i.1,i.2.2)∧Sl rdTok 3 HT i.2.1.1 i.2.1.2 i.2.2) (fun _=>brk) (fun i=>glassL gb i.1 i.2) (fun _=>nextT 2 l=none) ([HT]) (by simp) (fun w hw=>(next_any gb HT r l 2 w hm hw).mono fun e w' h=>by
     rcases h with ⟨t,r2,q,h1,h2,h3,h4⟩ | ⟨r2,q,h1,h2,h3⟩
     · exact .inl ⟨(t,r2,q),h1,⟨h2,h3⟩,h4⟩
     · exact .inr ⟨(r2,q),h1,h2,h3⟩) ?_ ?_
 ·
  intro ⟨rp,qp⟩ hp
  refine Ep ?_
  refine Epp fun w' hw=>?_
  exact .inr ⟨rp,qp,O,by unfold numP; rw [hp]; rfl,(by have h:=hw; exact h)⟩
 intro ⟨t4,r4,q4⟩ ⟨hq4,hm4⟩
 refine V0 (yl_field fld255_1 O O) (V0 (Ya O) (Ln (Et (Crt ?_))))
 refine R1 O O fun w' hw=>?_
 exact .inl ⟨t4.n,r4,q4,O,by unfold numP; rw [hq4]; rfl,hm4,hw⟩
theorem gref_any (gb:Nat) (HT:View) (r:Option Addr×Nat) (l:Tk) (w:World) (hok:TOk l) (hm:Sl rdTok 3 HT r.1 r.2 l) (hw:Ws w (List.flatMap Asr.ids (glassL gb r l)) (glassL gb r l) [HT] w) :
   Calls Tryz.prog 183 #[.pointer (some ⟨gb,0,none⟩)] w fun e w'=>(∃(p:Tx×Tx) (r2:Option Addr×Nat) (q:Tk),e = .returned (.tuple #[st p.1,st p.2])∧refP l=some (p,q)∧Sl rdTok 3 HT r2.1 r2.2 q∧Ws w (List.flatMap Asr.ids (glassL gb r l)) (glassL gb r2 q) [HT] w')∨(∃(r2:Option Addr×Nat) (q:Tk),e = .panicked brk∧refP l=none∧Ws w (List.flatMap Asr.ids (glassL gb r l)) (glassL gb r2 q) [HT] w'):=by
 refine enter Tryz.func183 O 13 O O ?_
 refine CE hw ?_
 refine Cs (Cr (V0 (Ya O) (V0 (Ya O) (Ln (Et (Cs (Cr (V0 (Ym O) (Lf 0 O ?_)))))))))
 refine Lwx (ι:=(Tx)×(Option Addr×Nat)×Tk) (κ:=(Option Addr×Nat)×Tk) [_] _ Y O en144 O O (fun i=>st i.1) (fun i=>glassL gb i.2.1 i.2.2) (fun i=>namP l=some (i.1,i.2.2)∧Sl rdTok 3 HT i.2.1.1 i.2.1.2 i.2.2) (fun _=>brk) (fun i=>glassL gb i.1 i.2) (fun _=>namP l=none) ([HT]) (by simp) (fun w hw=>(gname_any gb HT r l w hm hw).mono fun e w' h=>by
     rcases h with ⟨t,r2,q,h1,h2,h3,h4⟩ | ⟨r2,q,h1,h2,h3⟩
     · exact .inl ⟨(t,r2,q),h1,⟨h2,h3⟩,h4⟩
     · exact .inr ⟨(r2,q),h1,h2,h3⟩) ?_ ?_
 ·
  intro ⟨rp,qp⟩ hp
  refine Ep ?_
  refine Epp fun w' hw=>?_
  exact .inr ⟨rp,qp,O,by unfold refP; rw [hp]; rfl,(by have h:=hw; exact h)⟩
 intro ⟨s6,r6,q6⟩ ⟨hq6,hm6⟩
 have ok6:=tNam hok hq6
 refine V0 (Ya O) (Ln (Et (Cs (Cs (Cr (V0 (Ym O) (Lf 0 O ?_)))))))
 refine Lw (ι:=Bool×(Option Addr×Nat)×Tk) [_] _ Y O en145 O O (fun i=>.bool i.1) (fun i=>glassL gb i.2.1 i.2.2) (fun i=>(i.1=true→hasT [46] q6=some i.2.2)∧(i.1=false→hasT [46] q6=none∧q6=i.2.2)∧Sl rdTok 3 HT i.2.1.1 i.2.1.2 i.2.2) [HT] (by simp) (fun w hw=>has_any gb HT r6 q6 [46] w hm6 hw) ?_
 intro ⟨b8,r8,q8⟩ ⟨h8t,h8f,hm8⟩
 refine Ln (Et ?_)
 refine Cc O (fun hc0=>?_) (fun hc0=>?_)
 ·
  have hq8:=h8t hc0
  have ok8:=tHas ok6 hq8
  refine Cs (Cr (V0 (Ym O) (V0 (Ym O) (Lf 0 O ?_))))
  refine Lwx (ι:=(Tx)×(Option Addr×Nat)×Tk) (κ:=(Option Addr×Nat)×Tk) [_] _ Y O en144 O O (fun i=>st i.1) (fun i=>glassL gb i.2.1 i.2.2) (fun i=>namP q8=some (i.1,i.2.2)∧Sl rdTok 3 HT i.2.1.1 i.2.1.2 i.2.2) (fun _=>brk) (fun i=>glassL gb i.1 i.2) (fun _=>namP q8=none) ([HT]) (by simp) (fun w hw=>(gname_any gb HT r8 q8 w hm8 hw).mono fun e w' h=>by
      rcases h with ⟨t,r2,q,h1,h2,h3,h4⟩ | ⟨r2,q,h1,h2,h3⟩
      · exact .inl ⟨(t,r2,q),h1,⟨h2,h3⟩,h4⟩
      · exact .inr ⟨(r2,q),h1,h2,h3⟩) ?_ ?_
  ·
   intro ⟨rp,qp⟩ hp
   refine Ep (Ep ?_)
   refine Epp fun w' hw=>?_
   exact .inr ⟨rp,qp,O,by unfold refP; rw [hq6]; simp only [Option.bind_some]; rw [hq8]; simp only; rw [hp]; rfl,(by have h:=hw; exact h)⟩
  intro ⟨s11,r11,q11⟩ ⟨hq11,hm11⟩
  have ok11:=tNam ok8 hq11
  refine V0 (Ya O) (V0 (Ya O) (Ln (Et (Crt (Er ?_)))))
  refine WE.ret2 O O O fun w' hw=>?_
  exact .inl ⟨(s6,s11),r11,q11,O,by unfold refP; rw [hq6]; simp only [Option.bind_some]; rw [hq8]; simp only; rw [hq11]; rfl,hm11,hw⟩
 obtain ⟨hn8,hl8⟩:=h8f hc0
 subst hl8
 refine Ck (Et (Cs (Cr (V0 (Ym O) (V0 (Ya O) (V0 (Ya O) (Ln (Et (Crt ?_)))))))))
 refine WE.ret2 O O O fun w' hw=>?_
 exact .inl ⟨([],s6),r8,q6,O,by unfold refP; rw [hq6]; simp only [Option.bind_some]; rw [hn8],hm8,hw⟩
abbrev XE:=TExpr×Option Addr×Nat
def XE.cells (e:XE):List Value:=exprV e.1 e.2.1 e.2.2
theorem XE.cells_len (e:XE):(XE.cells e).length=5:=rfl
theorem XE.one (e:XE):(XE.cells e).all (·.oneCell')=true:=rfl
def rdXE (H:View) (b o:Nat) (e:XE):Prop:=RdC H b o (XE.cells e)
def XEs (J:View) (f:Nat) (es:List XE):Prop:=∀e ∈ es,Sl (RdE f) 5 J e.2.1 e.2.2 e.1.args
theorem XEs.nil (J:View) (f:Nat):XEs J f []:=by intro e h; simp at h
theorem XEs.snoc {J J1 J2:View} {f:Nat} {es:List XE} {e:XE} (h:XEs J f es) (h1:VLe J J2) (h2:VLe J1 J2) (he:Sl (RdE f) 5 J1 e.2.1 e.2.2 e.1.args):XEs J2 f (es++[e]):=by
 intro x hx
 rcases List.mem_append.1 hx with hx | hx
 · exact (h x hx).imp fun b o y hy=>RdE_mono h1 (Nat.le_refl _) b o y hy
 · rw [List.mem_singleton] at hx
   subst hx
   exact he.imp fun b o y hy=>RdE_mono h2 (Nat.le_refl _) b o y hy
theorem slE_of {H J N:View} {f c:Nat} {a:Option Addr} {es:List XE} (h:Sl rdXE 5 H a c es) (hv:VLe H N) (hJ:VLe J N) (hes:XEs J f es):Sl (RdE (f+1)) 5 N a c (es.map (·.1)):=by
 refine ⟨by simpa using h.cap,h.max,h.spot,fun i x hx=>?_⟩
 rw [List.getElem?_map] at hx
 obtain ⟨e,he,rfl⟩:=Option.map_eq_some_iff.1 hx
 obtain ⟨b,o,h1,h2⟩:=h.elt i e he
 exact ⟨b,o,h1,e.2.1,e.2.2,RdC.mono hv h2,(hes e (List.mem_of_getElem? he)).imp fun b o y hy=>RdE_mono hJ (Nat.le_refl _) b o y hy⟩
theorem slE_mv {H N:View} {f c:Nat} {a:Option Addr} {l:List TExpr} (h:Sl (RdE f) 5 H a c l) (hv:VLe H N):Sl (RdE f) 5 N a c l:=h.imp fun b o y hy=>RdE_mono hv (Nat.le_refl _) b o y hy
structure GA where
 es:List XE
 a:Option Addr
 c:Nat
 J:View
 r:Option Addr×Nat
 q:Tk
def GlassE (HT:View) (f:Nat):Prop:=∀(gb:Nat) (r:Option Addr×Nat) (l:Tk) (d:Nat) (w:World),f+d=7→TOk l→Sl rdTok 3 HT r.1 r.2 l→Ws w (List.flatMap Asr.ids (glassL gb r l)) (glassL gb r l) [HT] w→
 Calls Tryz.prog 182 #[.pointer (some ⟨gb,0,none⟩),.int .i64 (d:Int)] w fun e w'=>(∃(x:TExpr) (s:Option Addr×Nat) (r2:Option Addr×Nat) (q:Tk),e = .returned (.agg #[.int .i64 (x).op,.int .i64 (x).n,st (x).mod,st (x).nm,.slice s.1 (x).args.length s.2])∧exprP f l=some (x,q)∧Sl (RdE f) 5 (nv w w') s.1 s.2 x.args∧Sl rdTok 3 HT r2.1 r2.2 q∧Ws w (List.flatMap Asr.ids (glassL gb r l)) (glassL gb r2 q) [HT] w')∨(∃(r2:Option Addr×Nat) (q:Tk),e = .panicked brk∧exprP f l=none∧Ws w (List.flatMap Asr.ids (glassL gb r l)) (glassL gb r2 q) [HT] w')
theorem argsL_some {pe:Tk→Option (TExpr×Tk)} {n:Nat} {l q q2:Tk} {x:TExpr} (h1:pe l=some (x,q)) (h2:hasT [41] q=some q2):argsL pe (n+1) l=some ([x],q2):=by rw [argsL,h1]; simp only [Option.bind_some]; rw [h2]
theorem argsL_more {pe:Tk→Option (TExpr×Tk)} {n:Nat} {l q q2:Tk} {x:TExpr} (h1:pe l=some (x,q)) (h2:hasT [41] q=none) (h3:hasT [44] q=some q2):argsL pe (n+1) l=(argsL pe n q2).map fun p=>(x::p.1,p.2):=by rw [argsL,h1]; simp only [Option.bind_some]; rw [h2]; simp only; rw [h3]
theorem argsL_bad {pe:Tk→Option (TExpr×Tk)} {n:Nat} {l q:Tk} {x:TExpr} (h1:pe l=some (x,q)) (h2:hasT [41] q=none) (h3:hasT [44] q=none):argsL pe (n+1) l=none:=by rw [argsL,h1]; simp only [Option.bind_some]; rw [h2]; simp only; rw [h3]
theorem argsL_no {pe:Tk→Option (TExpr×Tk)} {n:Nat} {l:Tk} (h1:pe l=none):argsL pe (n+1) l=none:=by rw [argsL,h1]; rfl
theorem opP_hit:∀(ws:List Tx) (i k:Nat) (w:Tx) (l q:Tk),ws[i]? = some w→(∀j v,j<i→ws[j]? = some v→hasT v l=none)→hasT w l=some q→opP ws k l=some (k+i,q)
 | [],i,k,w,l,q,h,_,_=>by simp at h
 | v::ws,0,k,w,l,q,h,_,hq=>by
   simp at h; subst h
   rw [opP,hq]; rfl
 | v::ws,i+1,k,w,l,q,h,hn,hq=>by
   rw [opP,hn 0 v (by omega) rfl]
   simp only
   rw [opP_hit ws i (k+1) w l q (by simpa using h) (fun j u hj hu=>hn (j+1) u (by omega) (by simpa using hu)) hq]
   congr 2
   omega
theorem opP_miss:∀(ws:List Tx) (k:Nat) (l:Tk),(∀w ∈ ws,hasT w l=none)→opP ws k l=none
 | [],_,_,_=>rfl
 | w::ws,k,l,h=>by
   rw [opP,h w (by simp)]
   exact opP_miss ws (k+1) l fun v hv=>h v (List.mem_cons_of_mem _ hv)
theorem opsA_get {i:Nat} {w:Tx} (h:opsL[i]? = some w):((opsL.map st).toArray)[i]? = some (st w):=by
 rw [List.getElem?_toArray,List.getElem?_map,h]; rfl
theorem en182:Enters Tryz.prog 182:=enters_of Tryz.func182 (by kernel_rfl) rfl
theorem el218:EltOk Tryz.prog 218 220 (.agg #[.int .i64 0,.int .i64 0,st [],st [],.slice none 0 0]) 5 72:=eltOk_of (by kernel_rfl)
theorem en143:Enters Tryz.prog 143:=enters_of Tryz.func143 (by kernel_rfl) rfl
theorem gargs_any (gb:Nat) (HT:View) (r:Option Addr×Nat) (l:Tk) (f d:Nat) (w:World) (hE:GlassE HT f) (hfd:f+d=7) (hok:TOk l) (hm:Sl rdTok 3 HT r.1 r.2 l) (hw:Ws w (List.flatMap Asr.ids (glassL gb r l)) (glassL gb r l) [HT] w) :
   Calls Tryz.prog 184 #[.pointer (some ⟨gb,0,none⟩),.int .i64 (d:Int)] w fun e w'=>(∃(xs:List TExpr) (s:Option Addr×Nat) (r2:Option Addr×Nat) (q:Tk),e = .returned (.slice s.1 xs.length s.2)∧argsP (exprP f) l=some (xs,q)∧Sl (RdE (f+1)) 5 (nv w w') s.1 s.2 xs∧Sl rdTok 3 HT r2.1 r2.2 q∧Ws w (List.flatMap Asr.ids (glassL gb r l)) (glassL gb r2 q) [HT] w')∨(∃(r2:Option Addr×Nat) (q:Tk),e = .panicked brk∧argsP (exprP f) l=none∧Ws w (List.flatMap Asr.ids (glassL gb r l)) (glassL gb r2 q) [HT] w'):=by
 refine enter Tryz.func184 O 21 O O ?_
 refine CE hw ?_
 refine Cs (Cr (V0 (Ya O) (Ln (Et (Cs (Cr (V0 (Ya O) ?_)))))))
 refine LW (fun _ h=>h.osl_nil 220 5) ?_
 refine WL.v0 ?_
 refine Ln (Et (Cs (Cs (Cr (V0 (Ym O) (Lf 1 O ?_))))))
 refine Lw (ι:=Bool×(Option Addr×Nat)×Tk) [_] _ Y O en145 O O (fun i=>.bool i.1) (fun i=>glassL gb i.2.1 i.2.2) (fun i=>(i.1=true→hasT [41] l=some i.2.2)∧(i.1=false→hasT [41] l=none∧l=i.2.2)∧Sl rdTok 3 HT i.2.1.1 i.2.1.2 i.2.2) [HT] (by simp) (fun w hw=>has_any gb HT r l [41] w hm hw) ?_
 intro ⟨b7,r7,q7⟩ ⟨h7t,h7f,hm7⟩
 refine Ln (Et ?_)
 refine Cc O (fun hc0=>?_) (fun hc0=>?_)
 ·
  have hq7:=h7t hc0
  have ok7:=tHas hok hq7
  refine Cs (Cr (V0 (Ym O) (V0 (Ya O) (Ln (Et (Crt (Er ?_)))))))
  refine R1 O O fun w' hw=>?_
  exact .inl ⟨[],(none,0),r7,q7,O,by rw [argsP,hq7],Sl.nil,hm7,Wv 1 (Wt 1 hw)⟩
 obtain ⟨hn7,hl7⟩:=h7f hc0
 subst hl7
 refine Ck (Et (Cb ?_))
 refine CLk (ι:=GA) (fun g=>[(5,.slice g.a g.es.length g.c)]) [(0,_),(1,_)] (fun g=>Ws w (List.flatMap Asr.ids (glassL gb r l)) (glassL gb g.r g.q++[osT 220 5 XE.cells g.a g.c g.es]) [g.J,HT]) (fun g=>(g.es.length+g.q.length≤l.length∧TOk g.q)∧Sl rdTok 3 HT g.r.1 g.r.2 g.q∧(Fresh w g.J∧XEs g.J f g.es)∧∃n,g.q.length<n∧argsP (exprP f) l=(argsL (exprP f) n g.q).map fun p=>(g.es.map (·.1)++p.1,p.2)) (fun g=>g.q.length) ⟨[],none,0,v0,r7,l⟩ ⟨⟨by simp,hok⟩,hm7,⟨v0_fresh w,XEs.nil _ _⟩,l.length+1,by simp,by rw [argsP,hn7]; simp⟩ (sc O (sc O (sc O sn))) (fun _ h=>by have h:=h.fronti 1 O; have h:=h.fronti 1 O; have h:=Ws.drops h (Vs':=[v0,HT]) (by simp); exact h) ?_
 intro g ⟨⟨hlen,hokg⟩,hmg,⟨hfJ,hXE⟩,hA⟩
 refine Cb (Cs (Cr (V0 (Ym O) (V0 (Ym O) (V0 (Ym O) (Lf 0 O ?_))))))
 refine Lwy (ι:=(TExpr×(Option Addr×Nat))×(Option Addr×Nat)×Tk) (κ:=(Option Addr×Nat)×Tk) [_] _ Y O en182 O O (fun i=>.agg #[.int .i64 (i.1.1).op,.int .i64 (i.1.1).n,st (i.1.1).mod,st (i.1.1).nm,.slice i.1.2.1 (i.1.1).args.length i.1.2.2]) (fun i=>glassL gb i.2.1 i.2.2) (fun F i=>exprP f g.q=some (i.1.1,i.2.2)∧Sl (RdE f) 5 F i.1.2.1 i.1.2.2 i.1.1.args∧Sl rdTok 3 HT i.2.1.1 i.2.1.2 i.2.2) (fun _=>brk) (fun i=>glassL gb i.1 i.2) (fun _=>exprP f g.q=none) ([HT]) (by simp) (fun _ _ h=>h) (fun w hw=>(hE gb g.r g.q d w hfd hokg hmg hw).mono fun e w' h=>by
     rcases h with ⟨x,s,r2,q,h1,h2,h3,h4,h5⟩ | ⟨r2,q,h1,h2,h3⟩
     · exact .inl ⟨((x,s),r2,q),h1,⟨h2,h3,h4⟩,h5⟩
     · exact .inr ⟨(r2,q),h1,h2,h3⟩) ?_ ?_
 ·
  intro ⟨rp,qp⟩ hp
  refine Ep (WE.block_panic (Ep (WE.block_panic ?_)))
  refine Epp fun w' hw=>?_
  obtain ⟨n,hn,hA⟩:=hA
  obtain ⟨n,rfl⟩:∃k,n=k+1:=⟨n-1,by omega⟩
  exact .inr ⟨rp,qp,O,by rw [hA,argsL_no hp]; rfl,(by have h:=hw; have h:=Wt 1 h; have h:=Ws.drops h (Vs':=[HT]) (by simp); exact h)⟩
 intro F12 ⟨⟨x12,s12⟩,r12,q12⟩ hf12 ⟨hq12,hx12,hm12⟩
 have ok12:TOk q12:=tExpr hokg hq12
 have le12:q12.length+1≤List.length (g.q):=expr_len hokg hq12
 refine WL.vjoin fun J12 j12a j12b j12f=>?_
 refine Lb Y O el218 O O O O fun b13=>?_
 refine Lrb 0 (.cells (XE.cells (x12,s12.1,s12.2)).toArray 220 (0,0)) O O ?_
 refine LA ((x12,s12.1,s12.2):XE) 2 0 Y O el218 O O O O O O (by have:=hok.len; omega) (by have:=hok.len; omega) fun a14 c14=>?_
 refine V0 (Ya O) (Ln (Et (Cs (Cs (Cr (V0 (Ym O) (Lf 1 O ?_)))))))
 refine Lw (ι:=Bool×(Option Addr×Nat)×Tk) [_] _ Y O en145 O O (fun i=>.bool i.1) (fun i=>glassL gb i.2.1 i.2.2) (fun i=>(i.1=true→hasT [41] q12=some i.2.2)∧(i.1=false→hasT [41] q12=none∧q12=i.2.2)∧Sl rdTok 3 HT i.2.1.1 i.2.1.2 i.2.2) [HT] (by simp) (fun w hw=>has_any gb HT r12 q12 [41] w hm12 hw) ?_
 intro ⟨b16,r16,q16⟩ ⟨h16t,h16f,hm16⟩
 refine Ln (Et ?_)
 refine Cc O (fun hc1=>?_) (fun hc1=>?_)
 ·
  have hq16:=h16t hc1
  have ok16:=tHas ok12 hq16
  obtain ⟨n,hn,hA⟩:=hA
  obtain ⟨n,rfl⟩:∃k,n=k+1:=⟨n-1,by omega⟩
  refine Cs ?_
  refine WC.oslN (rd:=rdXE) 2 O (fun k hk=>by simp [glassL,blk] at hk; subst hk; simp [outOf,glassL,blk,osl]) XE.cells_len (fun _ _ _ _ h=>h) fun K6 fK6 hK6=>?_
  refine Cr (V0 (Ym O) (V0 (Ya O) (Ln (Et (Crt (Er (Ebr (Er (Ebr ?_)))))))))
  refine R1 O O fun w' hw=>?_
  exact .inl ⟨(g.es++[(x12,s12.1,s12.2)]).map (·.1),(a14,c14),r16,q16,by rw [List.length_map],by rw [hA,argsL_some hq12 hq16]; simp,slE_of hK6 (nv_vs hw (by simp) fK6) (nv_vs hw (by simp) (j12f _ hf12 hfJ)) (XEs.snoc hXE j12b j12a hx12),hm16,Wv 2 (Wt 1 hw)⟩
 obtain ⟨hn16,hl16⟩:=h16f hc1
 subst hl16
 obtain ⟨n,hn,hA⟩:=hA
 obtain ⟨n,rfl⟩:∃k,n=k+1:=⟨n-1,by omega⟩
 refine Ck (Et (Cr (V0 (Ym O) ?_)))
 refine Lb Y O el22 O O O O fun b19=>?_
 refine Lsv (T:=9) (m:=1) 0 [[44]] O O (show 1≤1 by decide) (by decide) fun H19 hH19=>?_
 refine Lf 0 O ?_
 refine Lwx (ι:=(Option Addr×Nat)×Tk) (κ:=(Option Addr×Nat)×Tk) [_] _ Y O en143 O O (fun _=>.tuple #[]) (fun i=>glassL gb i.1 i.2) (fun i=>mustT [[44]] q12=some i.2∧Sl rdTok 3 HT i.1.1 i.1.2 i.2) (fun _=>brk) (fun i=>glassL gb i.1 i.2) (fun _=>mustT [[44]] q12=none) ([HT,H19]) (by simp) (fun w hw=>(must_any gb HT r16 q12 H19 _ _ [[44]] w hH19 hm16 hw).mono fun e w' h=>by
     rcases h with ⟨r2,q,h1,h2,h3,h4⟩ | ⟨r2,q,h1,h2,h3⟩
     · exact .inl ⟨(r2,q),h1,⟨h2,h3⟩,h4⟩
     · exact .inr ⟨(r2,q),h1,h2,h3⟩) ?_ ?_
 ·
  intro ⟨rp,qp⟩ hp
  refine WE.block_panic (Ep (WE.block_panic ?_))
  refine Epp fun w' hw=>?_
  exact .inr ⟨rp,qp,O,by rw [hA,argsL_bad hq12 hn16 ((must1 _ _).symm.trans hp)]; rfl,(by have h:=hw; have h:=Wt 1 h; have h:=Ws.drops h (Vs':=[HT]) (by simp); exact h)⟩
 intro ⟨r20,q20⟩ ⟨hq20,hm20⟩
 have ok20:=tMust ok12 hq20
 refine Ln (Eb ?_)
 exact Ea (⟨g.es++[(x12,s12.1,s12.2)],a14,c14,J12,r20,q20⟩:GA) (by have:=mustT_len hq20; simp at this; show q20.length<g.q.length; omega) ⟨⟨by have:=mustT_len hq20; simp at this ⊢; omega,ok20⟩,hm20,⟨j12f _ hf12 hfJ,XEs.snoc hXE j12b j12a hx12⟩,n,(show q20.length<n by have:=mustT_len hq20; simp at this; omega),by rw [hA,argsL_more hq12 hn16 ((must1 _ _).symm.trans hq20)]; simp [Function.comp_def]⟩ (sc O (sc O (sc O sn))) (fun _ h=>by
     have h:=h.fronti 2 rfl
     have h:=h.fronti 1 rfl
     have h:=Wt 2 h
     have h:=Ws.drops h (Vs':=[J12,HT]) (by simp)
     exact h)
theorem restP_1 {pe:Tk→Option (TExpr×Tk)} {l q:Tk} (h:hasT [105,110] l=some q):restP pe l=some (TExpr.mk 2 0 [] [] [],q):=by unfold restP; rw [show w_in=[105,110] from rfl,h]
theorem restP_2 {pe:Tk→Option (TExpr×Tk)} {l q:Tk} (h1:hasT [105,110] l=none) (h:hasT [33] l=some q):restP pe l=(pe q).map fun x=>(TExpr.mk 6 0 [] [] [x.1],x.2):=by unfold restP; rw [show w_in=[105,110] from rfl,h1]; simp only; rw [h]
theorem restP_3 {pe:Tk→Option (TExpr×Tk)} {l q:Tk} (h1:hasT [105,110] l=none) (h2:hasT [33] l=none) (h:hasT [40] l=some q):restP pe l=twoP pe q:=by unfold restP; rw [show w_in=[105,110] from rfl,h1]; simp only; rw [h2]; simp only; rw [h]
theorem restP_4 {pe:Tk→Option (TExpr×Tk)} {l:Tk} (h1:hasT [105,110] l=none) (h2:hasT [33] l=none) (h:hasT [40] l=none):restP pe l=(refP l).bind fun p=>tailP pe p.1.1 p.1.2 p.2:=by unfold restP; rw [show w_in=[105,110] from rfl,h1]; simp only; rw [h2]; simp only; rw [h]
theorem tailP_1 {pe:Tk→Option (TExpr×Tk)} {mod nm:Tx} {l q:Tk} (h:hasT [91] l=some q):tailP pe mod nm l=(pe q).bind fun x=>(hasT [93] x.2).map fun r=>(TExpr.mk 4 0 mod nm [x.1],r):=by unfold tailP; rw [h]
theorem tailP_2 {pe:Tk→Option (TExpr×Tk)} {mod nm:Tx} {l q:Tk} (h1:hasT [91] l=none) (h:hasT [40] l=some q):tailP pe mod nm l=(argsP pe q).map fun q=>(TExpr.mk 5 0 mod nm q.1,q.2):=by unfold tailP; rw [h1]; simp only; rw [h]
theorem tailP_3 {pe:Tk→Option (TExpr×Tk)} {mod nm:Tx} {l:Tk} (h1:hasT [91] l=none) (h:hasT [40] l=none):tailP pe mod nm l=some (TExpr.mk 3 0 mod nm [],l):=by unfold tailP; rw [h1]; simp only; rw [h]
theorem exprP_none {f d:Nat} {l:Tk} (hf:f+d=7) (h:6<d∨l=[]):exprP f l=none:=by
 rcases h with h | rfl
 · obtain rfl:f=0:=by omega
   rfl
 · cases f<;>rfl
theorem exprP_num {f:Nat} {t:Tok} {r:Tk} (h:t.kind=2):exprP (f+1) (t::r)=some (TExpr.mk 1 t.n [] [] [],r):=by rw [exprP,if_pos h]
theorem exprP_rest {f:Nat} {t:Tok} {r:Tk} (h:¬t.kind=2):exprP (f+1) (t::r)=restP (exprP f) (t::r):=by rw [exprP,if_neg h]
theorem numP_cons {t:Tok} {r:Tk} (h:t.kind=2):numP (t::r)=some (t.n,r):=by simp [numP,nextT,h]
theorem en201:Enters Tryz.prog 201:=enters_of Tryz.func201 (by kernel_rfl) rfl
theorem ara314:arr1 Tryz.prog 314=some 9:=by kernel_rfl
theorem pl220:placesP Tryz.prog 220=some [(0,1),(1,1),(2,1),(3,1),(4,1)]:=by kernel_rfl
theorem en171:Enters Tryz.prog 171:=enters_of Tryz.func171 (by kernel_rfl) rfl
theorem en193:Enters Tryz.prog 193:=enters_of Tryz.func193 (by kernel_rfl) rfl
theorem en183:Enters Tryz.prog 183:=enters_of Tryz.func183 (by kernel_rfl) rfl
theorem sz218:sizeP Tryz.prog 218=some 1:=by kernel_rfl
theorem en184:Enters Tryz.prog 184:=enters_of Tryz.func184 (by kernel_rfl) rfl
theorem gtwo_any (gb:Nat) (HT:View) (r:Option Addr×Nat) (l:Tk) (f d:Nat) (w:World) (hE:GlassE HT f) (hfd:f+d=7) (hok:TOk l) (hm:Sl rdTok 3 HT r.1 r.2 l) (hw:Ws w (List.flatMap Asr.ids (glassL gb r l)) (glassL gb r l) [HT] w) :
   Calls Tryz.prog 193 #[.pointer (some ⟨gb,0,none⟩),.int .i64 (d:Int)] w fun e w'=>(∃(x:TExpr) (s:Option Addr×Nat) (r2:Option Addr×Nat) (q:Tk),e = .returned (.agg #[.int .i64 (x).op,.int .i64 (x).n,st (x).mod,st (x).nm,.slice s.1 (x).args.length s.2])∧twoP (exprP f) l=some (x,q)∧Sl (RdE (f+1)) 5 (nv w w') s.1 s.2 x.args∧Sl rdTok 3 HT r2.1 r2.2 q∧Ws w (List.flatMap Asr.ids (glassL gb r l)) (glassL gb r2 q) [HT] w')∨(∃(r2:Option Addr×Nat) (q:Tk),e = .panicked brk∧twoP (exprP f) l=none∧Ws w (List.flatMap Asr.ids (glassL gb r l)) (glassL gb r2 q) [HT] w'):=by
 refine enter Tryz.func193 O 35 O O ?_
 refine CE hw ?_
 refine Cs (Cr ?_)
 refine Al Y O zr220 fun b4=>?_
 refine Lrb 0 (.cells (exprV (TExpr.mk 0 0 [] [] []) none 0).toArray 220 (0,0)) O O ?_
 refine Ln (Et (Cs (Cr (V0 (Ym O) (V0 (Ym O) (Lf 1 O ?_))))))
 refine Lwy (ι:=(TExpr×(Option Addr×Nat))×(Option Addr×Nat)×Tk) (κ:=(Option Addr×Nat)×Tk) [_] _ Y O en182 O O (fun i=>.agg #[.int .i64 (i.1.1).op,.int .i64 (i.1.1).n,st (i.1.1).mod,st (i.1.1).nm,.slice i.1.2.1 (i.1.1).args.length i.1.2.2]) (fun i=>glassL gb i.2.1 i.2.2) (fun F i=>exprP f l=some (i.1.1,i.2.2)∧Sl (RdE f) 5 F i.1.2.1 i.1.2.2 i.1.1.args∧Sl rdTok 3 HT i.2.1.1 i.2.1.2 i.2.2) (fun _=>brk) (fun i=>glassL gb i.1 i.2) (fun _=>exprP f l=none) ([HT]) (by simp) (fun _ _ h=>h) (fun w hw=>(hE gb r l d w hfd hok hm hw).mono fun e w' h=>by
     rcases h with ⟨x,s,r2,q,h1,h2,h3,h4,h5⟩ | ⟨r2,q,h1,h2,h3⟩
     · exact .inl ⟨((x,s),r2,q),h1,⟨h2,h3,h4⟩,h5⟩
     · exact .inr ⟨(r2,q),h1,h2,h3⟩) ?_ ?_
 ·
  intro ⟨rp,qp⟩ hp
  refine Ep ?_
  refine Epp fun w' hw=>?_
  exact .inr ⟨rp,qp,O,by rw [twoP,hp]; rfl,(by have h:=hw; have h:=Wt 1 h; exact h)⟩
 intro F11 ⟨⟨x11,s11⟩,r11,q11⟩ hf11 ⟨hq11,hx11,hm11⟩
 have ok11:TOk q11:=tExpr hok hq11
 have le11:q11.length+1≤List.length (l):=expr_len hok hq11
 refine Al Y O zr220 fun b5=>?_
 refine Lst 0 Y O O O sz220 O O O (Ln (Et (Cs (Cs (Cr ?_)))))
 refine Lp Y O en201 O (fun w hw=>ops_any w) ?_
 refine V0 (Ym O) (Ln (Et (Cb ?_)))
 refine CLk (ι:=Nat×(Option Addr×Nat)) (fun g=>[(13,.int .i64 (g.1:Int))]) [(0,_),(1,_),(4,_),(5,_),(12,_)] (fun g=>Ws w (List.flatMap Asr.ids (glassL gb r l)) (glassL gb g.2 q11++[blk b5 (.cells (XE.cells (x11,s11.1,s11.2)).toArray 220 (0,0)),blk b4 (.cells (exprV (TExpr.mk 0 0 [] [] []) none 0).toArray 220 (0,0))]) [F11,HT]) (fun g=>g.1≤9∧(∀j v,j<g.1→opsL[j]? = some v→hasT v q11=none)∧Sl rdTok 3 HT g.2.1 g.2.2 q11) (fun g=>9-g.1) (0,r11) ⟨Nat.zero_le _,by simp,hm11⟩ (sc O (sc O (sc O (sc O (sc O (sc O sn)))))) (fun _ h=>(((h.f 2 O).f 1 O).f 2 O:)) ?_
 intro g ⟨hi,hall,hmg⟩
 refine Cs (Cr (V0 (yl_lt O O) (Ln (Et (Cs ?_)))))
 refine Cc O (fun hc0=>?_) (fun hc0=>?_)
 ·
  have hlt:g.1<9:=by simp at hc0; omega
  obtain ⟨o,hoi⟩:∃o,opsL[g.1]? = some o:=⟨_,List.getElem?_eq_getElem (by show g.1<9; exact hlt)⟩
  refine Ck (Et (Cs (Cb (Cs (Cr (V0 (Ym O) (V0 (yl_ixa (i:=g.1) ara314 O O hlt (opsA_get hoi)) (V0 (Ya O) (V0 (Ya O) (Ln (Et (Cs (Cr ?_)))))))))))))
  refine V0 (Ym O) (V0 (Ym O) (Lf 0 O ?_))
  refine Lw (ι:=Bool×(Option Addr×Nat)×Tk) [_] _ Y O en145 O O (fun i=>.bool i.1) (fun i=>glassL gb i.2.1 i.2.2) (fun i=>(i.1=true→hasT o q11=some i.2.2)∧(i.1=false→hasT o q11=none∧q11=i.2.2)∧Sl rdTok 3 HT i.2.1.1 i.2.1.2 i.2.2) [HT] (by simp) (fun w hw=>has_any gb HT g.2 q11 o w hmg hw) ?_
  intro ⟨b19,r19,q19⟩ ⟨h19t,h19f,hm19⟩
  refine Ln (Et ?_)
  refine Cc O (fun hc1=>?_) (fun hc1=>?_)
  ·
   have hq19:=h19t hc1
   have ok19:=tHas ok11 hq19
   have hop:opP opsL 0 q11=some (g.1,q19):=by rw [opP_hit opsL g.1 0 o q11 q19 hoi hall hq19,Nat.zero_add]
   refine Cs (Cr (V0 (Ym O) (V0 (Ym O) (Lf 0 O ?_))))
   refine Lwy (ι:=(TExpr×(Option Addr×Nat))×(Option Addr×Nat)×Tk) (κ:=(Option Addr×Nat)×Tk) [_] _ Y O en182 O O (fun i=>.agg #[.int .i64 (i.1.1).op,.int .i64 (i.1.1).n,st (i.1.1).mod,st (i.1.1).nm,.slice i.1.2.1 (i.1.1).args.length i.1.2.2]) (fun i=>glassL gb i.2.1 i.2.2) (fun F i=>exprP f q19=some (i.1.1,i.2.2)∧Sl (RdE f) 5 F i.1.2.1 i.1.2.2 i.1.1.args∧Sl rdTok 3 HT i.2.1.1 i.2.1.2 i.2.2) (fun _=>brk) (fun i=>glassL gb i.1 i.2) (fun _=>exprP f q19=none) ([HT]) (by simp) (fun _ _ h=>h) (fun w hw=>(hE gb r19 q19 d w hfd ok19 hm19 hw).mono fun e w' h=>by
       rcases h with ⟨x,s,r2,q,h1,h2,h3,h4,h5⟩ | ⟨r2,q,h1,h2,h3⟩
       · exact .inl ⟨((x,s),r2,q),h1,⟨h2,h3,h4⟩,h5⟩
       · exact .inr ⟨(r2,q),h1,h2,h3⟩) ?_ ?_
   ·
    intro ⟨rp,qp⟩ hp
    refine Ep (WE.block_panic (Ep (Ep (WE.block_panic (Ep ?_)))))
    refine Epp fun w' hw=>?_
    exact .inr ⟨rp,qp,O,by rw [twoP,hq11]; simp only [Option.bind_some]; rw [hop]; simp only [Option.bind_some]; rw [hp]; rfl,(by have h:=hw; have h:=Wt 1 h; have h:=Ws.drops h (Vs':=[HT]) (by simp); exact h)⟩
   intro F22 ⟨⟨x22,s22⟩,r22,q22⟩ hf22 ⟨hq22,hx22,hm22⟩
   have ok22:TOk q22:=tExpr ok19 hq22
   have le22:q22.length+1≤List.length (q19):=expr_len ok19 hq22
   refine WL.vjoin fun J22 j22a j22b j22f=>?_
   refine Al Y O zr220 fun b8=>?_
   refine Lst 0 Y O O O sz220 O O O (Ln (Et (Cs (Cr (V0 (Ym O) ?_)))))
   refine Lb Y O el22 O O O O fun b24=>?_
   refine Lsv (T:=9) (m:=1) 0 [[41]] O O (show 1≤1 by decide) (by decide) fun H24 hH24=>?_
   refine Lf 1 O ?_
   refine Lwx (ι:=(Option Addr×Nat)×Tk) (κ:=(Option Addr×Nat)×Tk) [_] _ Y O en143 O O (fun _=>.tuple #[]) (fun i=>glassL gb i.1 i.2) (fun i=>mustT [[41]] q22=some i.2∧Sl rdTok 3 HT i.1.1 i.1.2 i.2) (fun _=>brk) (fun i=>glassL gb i.1 i.2) (fun _=>mustT [[41]] q22=none) ([HT,H24]) (by simp) (fun w hw=>(must_any gb HT r22 q22 H24 _ _ [[41]] w hH24 hm22 hw).mono fun e w' h=>by
       rcases h with ⟨r2,q,h1,h2,h3,h4⟩ | ⟨r2,q,h1,h2,h3⟩
       · exact .inl ⟨(r2,q),h1,⟨h2,h3⟩,h4⟩
       · exact .inr ⟨(r2,q),h1,h2,h3⟩) ?_ ?_
   ·
    intro ⟨rp,qp⟩ hp
    refine Ep (WE.block_panic (Ep (Ep (WE.block_panic (Ep ?_)))))
    refine Epp fun w' hw=>?_
    exact .inr ⟨rp,qp,O,by rw [twoP,hq11]; simp only [Option.bind_some]; rw [hop]; simp only [Option.bind_some]; rw [hq22]; simp only [Option.bind_some]; rw [←must1,hp]; rfl,(by have h:=hw; have h:=Wt 1 h; have h:=Ws.drops h (Vs':=[HT]) (by simp); exact h)⟩
   intro ⟨r25,q25⟩ ⟨hq25,hm25⟩
   have ok25:=tMust ok22 hq25
   refine Ln (Et (Cs (Cr (V0 (Ym O) ?_))))
   refine V0 (yl_addv ((7:Int)+(g.1:Int)) O O O (by omega)) ?_
   refine V0 (Yda 2 O O ag220 O) (V0 (Yda 1 O O ag220 O) ?_)
   refine Lb Y O el218 O O O O fun b30=>?_
   refine LN (rd:=rdXE) (f:=XE.cells) (m:=2) 0 [(x11,s11.1,s11.2),(x22,s22.1,s22.2)] O O (fun k hk=>by simp [glassL,blk] at hk; subst hk; simp [outOf,glassL,blk,osl]) XE.cells_len (fun _ _ _ _ h=>h) (show 2≤2 by decide) (by decide) fun H30 fH30 hH30=>?_
   refine V0 (Yb zr220 pl220 O O) (Lst 3 Y O O O sz220 O O O (Ln (Et (Crt (Ebr (Er (Er (Ebr (Er ?_)))))))))
   refine WE.retR (rs_1 O (rv_agg 3 O O ag220 O)) fun w' hw=>?_
   exact .inl ⟨TExpr.mk (7+(g.1:Int)) 0 [] [] [x11,x22],(some ⟨b30,0,none⟩,2),r25,q25,O,by rw [twoP,hq11]; simp only [Option.bind_some]; rw [hop]; simp only [Option.bind_some]; rw [hq22]; simp only [Option.bind_some]; rw [←must1,hq25]; rfl,slE_of hH30 (nv_vs hw (by simp) fH30) (nv_vs hw (by simp) (j22f _ hf22 hf11)) (((XEs.nil J22 f).snoc (VLe.refl _) j22b hx11).snoc (VLe.refl _) j22a hx22),hm25,Wv 3 (Wt 1 hw)⟩
  obtain ⟨hn19,hl19⟩:=h19f hc1
  subst hl19
  refine Ck (Eb (Et (Cr ?_)))
  refine V0 (Yi O O O (by omega)) ?_
  refine V0 (Ym O) (Ln ?_)
  exact Ea ((g.1+1,r19):Nat×(Option Addr×Nat)) (by show 9-(g.1+1)<9-g.1; omega) ⟨by show g.1+1≤9; omega,fun j v hj hv=>by
      rcases Nat.lt_succ_iff_lt_or_eq.1 hj with h | rfl
      · exact hall j v h hv
      · rw [hoi] at hv; injection hv with hv; subst hv; exact hn19,hm19⟩ (sc rfl (sc rfl (sc rfl (sc rfl (sc rfl (sc rfl sn)))))) (fun _ h=>h)
 have hge:¬g.1<9:=by simp at hc0; omega
 have hmiss:opP opsL 0 q11=none:=opP_miss _ _ _ fun v hv=>by
   obtain ⟨j,hj⟩:=List.getElem?_of_mem hv
   exact hall j v (by have:=(List.getElem?_eq_some_iff.1 hj).1; have:opsL.length=9:=rfl; omega) hj
 refine Ce (Ex (Ex (Ebh (Et (Cr (V0 (Yb zr230 pl230 O O) (V0 (yl_mki co230 O) ?_)))))))
 refine WL.panic Y O ?_
 refine Epp fun w' hw=>?_
 exact .inr ⟨g.2,q11,O,by rw [twoP,hq11]; simp only [Option.bind_some]; rw [hmiss]; rfl,(by have h:=hw; have h:=Wt 1 h; have h:=Ws.drops h (Vs':=[HT]) (by simp); exact h)⟩
theorem gexpr_any (HT:View) (f:Nat) (gb:Nat) (r:Option Addr×Nat) (l:Tk) (d:Nat) (w:World) (hfd:f+d=7) (hok:TOk l) (hm:Sl rdTok 3 HT r.1 r.2 l) (hw:Ws w (List.flatMap Asr.ids (glassL gb r l)) (glassL gb r l) [HT] w) :
   Calls Tryz.prog 182 #[.pointer (some ⟨gb,0,none⟩),.int .i64 (d:Int)] w fun e w'=>(∃(x:TExpr) (s:Option Addr×Nat) (r2:Option Addr×Nat) (q:Tk),e = .returned (.agg #[.int .i64 (x).op,.int .i64 (x).n,st (x).mod,st (x).nm,.slice s.1 (x).args.length s.2])∧exprP f l=some (x,q)∧Sl (RdE f) 5 (nv w w') s.1 s.2 x.args∧Sl rdTok 3 HT r2.1 r2.2 q∧Ws w (List.flatMap Asr.ids (glassL gb r l)) (glassL gb r2 q) [HT] w')∨(∃(r2:Option Addr×Nat) (q:Tk),e = .panicked brk∧exprP f l=none∧Ws w (List.flatMap Asr.ids (glassL gb r l)) (glassL gb r2 q) [HT] w'):=by
 induction f using Nat.strongRecOn generalizing gb r l d w
 rename_i f ih
 have hcap:=hm.cap
 have hmax:=hm.max
 refine enter Tryz.func182 O 83 O O ?_
 refine CE hw ?_
 refine Cs (Cr ?_)
 refine Al Y O zr220 fun b4=>?_
 refine Lrb 0 (.cells (exprV (TExpr.mk 0 0 [] [] []) none 0).toArray 220 (0,0)) O O ?_
 refine Ln (Et (Cs (Cs (Cr (V0 (Ym O) (V0 (yl_gt O O) (V0 (Ym O) ?_)))))))
 apply Lo 6 O O O O Y O O O O O
 ·
  intro hg0
  refine Vg (Ym O) (Vg (yl_nil O) (Vg (Yf fo228_0 O) (Vg (Yd 1 O O O na223) (Vg (Yn es223 O) (Vg (yl_eq O O) ?_)))))
  exact Gt 6 O O O
 refine Ln (Et ?_)
 refine Cc O (fun hc0=>?_) (fun hc0=>?_)
 ·
  have hno:exprP f l=none:=exprP_none hfd (by
    simp at hc0
    rcases hc0 with h | h
    · left; omega
    · right; exact h)
  refine Cr (V0 (Yb zr230 pl230 O O) (V0 (yl_mki co230 O) ?_))
  refine WL.panic Y O ?_
  refine Ep ?_
  refine Epp fun w' hw=>?_
  exact .inr ⟨r,l,O,hno,(by have h:=hw; have h:=h.fronti 1 O; have h:=Wt 1 h; exact h)⟩
 have hd6:¬6<d:=by
   intro h
   have h2:(6:Int)<(d:Int):=by omega
   simp [h2] at hc0
 obtain ⟨f,rfl⟩:∃k,f=k+1:=⟨f-1,by omega⟩
 obtain ⟨t0,r0,rfl⟩:∃t r,l=t::r:=by
   cases l with
   | nil=>simp at hc0
   | cons t r=>exact ⟨t,r,rfl⟩
 obtain ⟨pbt,pot,hat,hrt⟩:=hm.elt 0 t0 rfl
 have hrt:RdC HT pbt (pot+0*3) t0.cells:=hrt
 have hE:GlassE HT f:=fun gb r l d w h1 h2 h3 h4=>ih f (by omega) gb r l d w h1 h2 h3 h4
 refine Ck (Et (Cs (Cb (Cs (Cr (V0 (Ym O) (V0 (yl_nil O) (V0 (Yf fo228_0 O) (V0 (Yd 1 O O O na223) ?_)))))))))
 refine V0 (Yo (i:=0) es223 O O hat (by simp)) ?_
 refine V0 (Yf fo255_0 O) (V0 (yl_ld 0 na3 O O (hrt 0 _ O)) (V0 (yl_eq O O) (V0 (Ya O) (Ln (Et ?_)))))
 refine Cc O (fun hc1=>?_) (fun hc1=>?_)
 ·
  have hk:t0.kind=2:=by simpa using hc1
  refine Cs (Cr (V0 (Ym O) (Lf 1 O ?_)))
  refine Lwx (ι:=(Int)×(Option Addr×Nat)×Tk) (κ:=(Option Addr×Nat)×Tk) [_] _ Y O en171 O O (fun i=>.int .i64 i.1) (fun i=>glassL gb i.2.1 i.2.2) (fun i=>numP (t0::r0)=some (i.1,i.2.2)∧Sl rdTok 3 HT i.2.1.1 i.2.1.2 i.2.2) (fun _=>brk) (fun i=>glassL gb i.1 i.2) (fun _=>numP (t0::r0)=none) ([HT]) (by simp) (fun w hw=>(gnum_any gb HT r (t0::r0) w hm hw).mono fun e w' h=>by
      rcases h with ⟨t,r2,q,h1,h2,h3,h4⟩ | ⟨r2,q,h1,h2,h3⟩
      · exact .inl ⟨(t,r2,q),h1,⟨h2,h3⟩,h4⟩
      · exact .inr ⟨(r2,q),h1,h2,h3⟩) ?_ ?_
  ·
   intro ⟨rp,qp⟩ hp
   refine Ep (WE.block_panic (Ep ?_))
   refine Epp fun w' hw=>?_
   rw [numP_cons hk] at hp
   cases hp
  intro ⟨n30,r30,q30⟩ ⟨hq30,hm30⟩
  have ok30:=tNum hok hq30
  refine V0 (Yb zr220 pl220 O O) ?_
  rw [numP_cons hk] at hq30
  injection hq30 with hq30
  injection hq30 with hn30 hq30
  subst hn30
  subst hq30
  refine Lst 1 Y O O O sz220 O O O (Ln (Et (Crt (Ebr (Er ?_)))))
  refine WE.retR (rs_1 O (rv_agg 1 O O ag220 O)) fun w' hw=>?_
  exact .inl ⟨TExpr.mk 1 t0.n [] [] [],(none,0),r30,r0,O,exprP_num hk,Sl.nil,hm30,Wt 1 hw⟩
 have hk:¬t0.kind=2:=by simpa using hc1
 have hR:=exprP_rest (f:=f) (r:=r0) hk
 refine Cs (Cr (V0 (Ym O) (Lf 1 O ?_)))
 refine Lw (ι:=Bool×(Option Addr×Nat)×Tk) [_] _ Y O en145 O O (fun i=>.bool i.1) (fun i=>glassL gb i.2.1 i.2.2) (fun i=>(i.1=true→hasT [105,110] (t0::r0)=some i.2.2)∧(i.1=false→hasT [105,110] (t0::r0)=none∧(t0::r0)=i.2.2)∧Sl rdTok 3 HT i.2.1.1 i.2.1.2 i.2.2) [HT] (by simp) (fun w hw=>has_any gb HT r (t0::r0) [105,110] w hm hw) ?_
 intro ⟨b34,r34,q34⟩ ⟨h34t,h34f,hm34⟩
 refine V0 (Ya O) (Ln (Et ?_))
 refine Cc O (fun hc2=>?_) (fun hc2=>?_)
 ·
  have hq34:=h34t hc2
  have ok34:=tHas hok hq34
  refine Cs (Cr (V0 (Yb zr220 pl220 O O) (Lst 1 Y O O O sz220 O O O (Ln (Et (Crt (Ebr (Er ?_))))))))
  refine WE.retR (rs_1 O (rv_agg 1 O O ag220 O)) fun w' hw=>?_
  exact .inl ⟨TExpr.mk 2 0 [] [] [],(none,0),r34,q34,O,by rw [hR,restP_1 hq34],Sl.nil,hm34,Wt 1 hw⟩
 obtain ⟨hn34,hl34⟩:=h34f hc2
 subst hl34
 refine Cs (Cr (V0 (Ym O) (Lf 0 O ?_)))
 refine Lw (ι:=Bool×(Option Addr×Nat)×Tk) [_] _ Y O en145 O O (fun i=>.bool i.1) (fun i=>glassL gb i.2.1 i.2.2) (fun i=>(i.1=true→hasT [33] (t0::r0)=some i.2.2)∧(i.1=false→hasT [33] (t0::r0)=none∧(t0::r0)=i.2.2)∧Sl rdTok 3 HT i.2.1.1 i.2.1.2 i.2.2) [HT] (by simp) (fun w hw=>has_any gb HT r34 (t0::r0) [33] w hm34 hw) ?_
 intro ⟨b38,r38,q38⟩ ⟨h38t,h38f,hm38⟩
 refine V0 (Ya O) (Ln (Et ?_))
 refine Cc O (fun hc3=>?_) (fun hc3=>?_)
 ·
  have hq38:=h38t hc3
  have ok38:=tHas hok hq38
  refine Cs (Cr (V0 (Ym O) (V0 (Ym O) ?_)))
  refine V0 (Yi O O O (by omega)) ?_
  refine Lf 0 O ?_
  refine Lwy (ι:=(TExpr×(Option Addr×Nat))×(Option Addr×Nat)×Tk) (κ:=(Option Addr×Nat)×Tk) [_] _ Y O en182 O O (fun i=>.agg #[.int .i64 (i.1.1).op,.int .i64 (i.1.1).n,st (i.1.1).mod,st (i.1.1).nm,.slice i.1.2.1 (i.1.1).args.length i.1.2.2]) (fun i=>glassL gb i.2.1 i.2.2) (fun F i=>exprP f q38=some (i.1.1,i.2.2)∧Sl (RdE f) 5 F i.1.2.1 i.1.2.2 i.1.1.args∧Sl rdTok 3 HT i.2.1.1 i.2.1.2 i.2.2) (fun _=>brk) (fun i=>glassL gb i.1 i.2) (fun _=>exprP f q38=none) ([HT]) (by simp) (fun _ _ h=>h) (fun w hw=>(hE gb r38 q38 (d+1) w (by omega) ok38 hm38 hw).mono fun e w' h=>by
      rcases h with ⟨x,s,r2,q,h1,h2,h3,h4,h5⟩ | ⟨r2,q,h1,h2,h3⟩
      · exact .inl ⟨((x,s),r2,q),h1,⟨h2,h3,h4⟩,h5⟩
      · exact .inr ⟨(r2,q),h1,h2,h3⟩) ?_ ?_
  ·
   intro ⟨rp,qp⟩ hp
   refine Ep (WE.block_panic (Ep ?_))
   refine Epp fun w' hw=>?_
   exact .inr ⟨rp,qp,O,by rw [hR,restP_2 hn34 hq38,hp]; rfl,(by have h:=hw; have h:=Wt 1 h; exact h)⟩
  intro F42 ⟨⟨x42,s42⟩,r42,q42⟩ hf42 ⟨hq42,hx42,hm42⟩
  have ok42:TOk q42:=tExpr ok38 hq42
  have le42:q42.length+1≤List.length (q38):=expr_len ok38 hq42
  refine Lb Y O el218 O O O O fun b43=>?_
  refine LN (rd:=rdXE) (f:=XE.cells) (m:=1) 0 [(x42,s42.1,s42.2)] O O (fun k hk=>by simp [glassL,blk] at hk; subst hk; simp [outOf,glassL,blk,osl]) XE.cells_len (fun _ _ _ _ h=>h) (show 1≤1 by decide) (by decide) fun H43 fH43 hH43=>?_
  refine V0 (Yb zr220 pl220 O O) (Lst 1 Y O O O sz220 O O O (Ln (Et (Crt (Ebr (Er ?_))))))
  refine WE.retR (rs_1 O (rv_agg 1 O O ag220 O)) fun w' hw=>?_
  exact .inl ⟨TExpr.mk 6 0 [] [] [x42],(some ⟨b43,0,none⟩,1),r42,q42,O,by rw [hR,restP_2 hn34 hq38,hq42]; rfl,slE_of hH43 (nv_vs hw (by simp) fH43) (nv_vs hw (by simp) hf42) ((XEs.nil F42 f).snoc (VLe.refl _) (VLe.refl _) hx42),hm42,Wv 2 (Wt 1 hw)⟩
 obtain ⟨hn38,hl38⟩:=h38f hc3
 subst hl38
 refine Cs (Cr (V0 (Ym O) (Lf 0 O ?_)))
 refine Lw (ι:=Bool×(Option Addr×Nat)×Tk) [_] _ Y O en145 O O (fun i=>.bool i.1) (fun i=>glassL gb i.2.1 i.2.2) (fun i=>(i.1=true→hasT [40] (t0::r0)=some i.2.2)∧(i.1=false→hasT [40] (t0::r0)=none∧(t0::r0)=i.2.2)∧Sl rdTok 3 HT i.2.1.1 i.2.1.2 i.2.2) [HT] (by simp) (fun w hw=>has_any gb HT r38 (t0::r0) [40] w hm38 hw) ?_
 intro ⟨b47,r47,q47⟩ ⟨h47t,h47f,hm47⟩
 refine V0 (Ya O) (Ln (Et ?_))
 refine Cc O (fun hc4=>?_) (fun hc4=>?_)
 ·
  have hq47:=h47t hc4
  have ok47:=tHas hok hq47
  refine Cs (Cr (V0 (Ym O) (V0 (Ym O) ?_)))
  refine V0 (Yi O O O (by omega)) ?_
  refine Lf 0 O ?_
  refine Lwy (ι:=((TExpr)×(Option Addr×Nat))×(Option Addr×Nat)×Tk) (κ:=(Option Addr×Nat)×Tk) [_] _ Y O en193 O O (fun i=>.agg #[.int .i64 (i.1.1).op,.int .i64 (i.1.1).n,st (i.1.1).mod,st (i.1.1).nm,.slice i.1.2.1 (i.1.1).args.length i.1.2.2]) (fun i=>glassL gb i.2.1 i.2.2) (fun F i=>twoP (exprP f) q47=some (i.1.1,i.2.2)∧Sl (RdE (f+1)) 5 F i.1.2.1 i.1.2.2 i.1.1.args∧Sl rdTok 3 HT i.2.1.1 i.2.1.2 i.2.2) (fun _=>brk) (fun i=>glassL gb i.1 i.2) (fun _=>twoP (exprP f) q47=none) ([HT]) (by simp) (fun _ _ h=>h) (fun w hw=>(gtwo_any gb HT r47 q47 f (d+1) w hE (by omega) ok47 hm47 hw).mono fun e w' h=>by
      rcases h with ⟨x,s,r2,q,h1,h2,h3,h4,h5⟩ | ⟨r2,q,h1,h2,h3⟩
      · exact .inl ⟨((x,s),r2,q),h1,⟨h2,h3,h4⟩,h5⟩
      · exact .inr ⟨(r2,q),h1,h2,h3⟩) ?_ ?_
  ·
   intro ⟨rp,qp⟩ hp
   refine Ep (WE.block_panic (Ep ?_))
   refine Epp fun w' hw=>?_
   exact .inr ⟨rp,qp,O,by rw [hR,restP_3 hn34 hn38 hq47,hp],(by have h:=hw; have h:=Wt 1 h; exact h)⟩
  intro F51 ⟨⟨x51,s51⟩,r51,q51⟩ hf51 ⟨hq51,hx51,hm51⟩
  refine Lst 1 Y O O O sz220 O O O (Ln (Et (Crt (Ebr (Er ?_)))))
  refine WE.retR (rs_1 O (rv_agg 1 O O ag220 O)) fun w' hw=>?_
  exact .inl ⟨x51,s51,r51,q51,O,by rw [hR,restP_3 hn34 hn38 hq47,hq51],slE_mv hx51 (nv_vs hw (by simp) hf51),hm51,Wv 1 (Wt 1 hw)⟩
 obtain ⟨hn47,hl47⟩:=h47f hc4
 subst hl47
 refine Ck (Eb (Et (Cs (Cr (V0 (Ym O) (Lf 0 O ?_))))))
 refine Lwx (ι:=(Tx×Tx)×(Option Addr×Nat)×Tk) (κ:=(Option Addr×Nat)×Tk) [_] _ Y O en183 O O (fun i=>.tuple #[st i.1.1,st i.1.2]) (fun i=>glassL gb i.2.1 i.2.2) (fun i=>refP (t0::r0)=some (i.1,i.2.2)∧Sl rdTok 3 HT i.2.1.1 i.2.1.2 i.2.2) (fun _=>brk) (fun i=>glassL gb i.1 i.2) (fun _=>refP (t0::r0)=none) ([HT]) (by simp) (fun w hw=>(gref_any gb HT r47 (t0::r0) w hok hm47 hw).mono fun e w' h=>by
     rcases h with ⟨t,r2,q,h1,h2,h3,h4⟩ | ⟨r2,q,h1,h2,h3⟩
     · exact .inl ⟨(t,r2,q),h1,⟨h2,h3⟩,h4⟩
     · exact .inr ⟨(r2,q),h1,h2,h3⟩) ?_ ?_
 ·
  intro ⟨rp,qp⟩ hp
  refine Ep ?_
  refine Epp fun w' hw=>?_
  exact .inr ⟨rp,qp,O,by rw [hR,restP_4 hn34 hn38 hn47,hp]; rfl,(by have h:=hw; have h:=Wt 1 h; exact h)⟩
 intro ⟨p54,r54,q54⟩ ⟨hq54,hm54⟩
 have ok54:=tRef hok hq54
 refine V0 (Ym O) (V0 (Yx O O) (V0 (Yx O O) (V0 (Ya O) (V0 (Ya O) (Ln (Et (Cs (Cr ?_))))))))
 refine V0 (Ym O) (V0 (Ym O) (V0 (Yb zr220 pl220 O O) ?_))
 refine Al Y O zr220 fun b7=>?_
 refine Lst 0 Y O O O sz220 O O O (Ln (Et (Cs (Cb (Cs (Cr (V0 (Ym O) (Lf 1 O ?_))))))))
 refine Lw (ι:=Bool×(Option Addr×Nat)×Tk) [_] _ Y O en145 O O (fun i=>.bool i.1) (fun i=>glassL gb i.2.1 i.2.2) (fun i=>(i.1=true→hasT [91] q54=some i.2.2)∧(i.1=false→hasT [91] q54=none∧q54=i.2.2)∧Sl rdTok 3 HT i.2.1.1 i.2.1.2 i.2.2) [HT] (by simp) (fun w hw=>has_any gb HT r54 q54 [91] w hm54 hw) ?_
 intro ⟨b62,r62,q62⟩ ⟨h62t,h62f,hm62⟩
 refine V0 (Ya O) (Ln (Et ?_))
 refine Cc O (fun hc5=>?_) (fun hc5=>?_)
 ·
  have hq62:=h62t hc5
  have ok62:=tHas ok54 hq62
  refine Cs (Cr (V0 (Ym O) (V0 (Ym O) ?_)))
  refine V0 (Yi O O O (by omega)) ?_
  refine Lf 0 O ?_
  refine Lwy (ι:=(TExpr×(Option Addr×Nat))×(Option Addr×Nat)×Tk) (κ:=(Option Addr×Nat)×Tk) [_] _ Y O en182 O O (fun i=>.agg #[.int .i64 (i.1.1).op,.int .i64 (i.1.1).n,st (i.1.1).mod,st (i.1.1).nm,.slice i.1.2.1 (i.1.1).args.length i.1.2.2]) (fun i=>glassL gb i.2.1 i.2.2) (fun F i=>exprP f q62=some (i.1.1,i.2.2)∧Sl (RdE f) 5 F i.1.2.1 i.1.2.2 i.1.1.args∧Sl rdTok 3 HT i.2.1.1 i.2.1.2 i.2.2) (fun _=>brk) (fun i=>glassL gb i.1 i.2) (fun _=>exprP f q62=none) ([HT]) (by simp) (fun _ _ h=>h) (fun w hw=>(hE gb r62 q62 (d+1) w (by omega) ok62 hm62 hw).mono fun e w' h=>by
      rcases h with ⟨x,s,r2,q,h1,h2,h3,h4,h5⟩ | ⟨r2,q,h1,h2,h3⟩
      · exact .inl ⟨((x,s),r2,q),h1,⟨h2,h3,h4⟩,h5⟩
      · exact .inr ⟨(r2,q),h1,h2,h3⟩) ?_ ?_
  ·
   intro ⟨rp,qp⟩ hp
   refine Ep (WE.block_panic (Ep ?_))
   refine Epp fun w' hw=>?_
   exact .inr ⟨rp,qp,O,by rw [hR,restP_4 hn34 hn38 hn47,hq54]; simp only [Option.bind_some]; rw [tailP_1 hq62,hp]; rfl,(by have h:=hw; have h:=Wt 1 h; exact h)⟩
  intro F66 ⟨⟨x66,s66⟩,r66,q66⟩ hf66 ⟨hq66,hx66,hm66⟩
  have ok66:TOk q66:=tExpr ok62 hq66
  have le66:q66.length+1≤List.length (q62):=expr_len ok62 hq66
  refine Lb Y O el218 O O O O fun b67=>?_
  refine LN (rd:=rdXE) (f:=XE.cells) (m:=1) 0 [(x66,s66.1,s66.2)] O O (fun k hk=>by simp [glassL,blk] at hk; subst hk; simp [outOf,glassL,blk,osl]) XE.cells_len (fun _ _ _ _ h=>h) (show 1≤1 by decide) (by decide) fun H67 fH67 hH67=>?_
  refine V0 (Yf fo220_0 O) (Lst 1 Y O O O sz3 O O O (V0 (Yf fo220_4 O) (Lst 1 Y O O O sz218 O O O (Ln (Et (Cr (V0 (Ym O) ?_)))))))
  refine Lb Y O el22 O O O O fun b71=>?_
  refine Lsv (T:=9) (m:=1) 0 [[93]] O O (show 1≤1 by decide) (by decide) fun H71 hH71=>?_
  refine Lf 0 O ?_
  refine Lwx (ι:=(Option Addr×Nat)×Tk) (κ:=(Option Addr×Nat)×Tk) [_] _ Y O en143 O O (fun _=>.tuple #[]) (fun i=>glassL gb i.1 i.2) (fun i=>mustT [[93]] q66=some i.2∧Sl rdTok 3 HT i.1.1 i.1.2 i.2) (fun _=>brk) (fun i=>glassL gb i.1 i.2) (fun _=>mustT [[93]] q66=none) ([HT,H71]) (by simp) (fun w hw=>(must_any gb HT r66 q66 H71 _ _ [[93]] w hH71 hm66 hw).mono fun e w' h=>by
      rcases h with ⟨r2,q,h1,h2,h3,h4⟩ | ⟨r2,q,h1,h2,h3⟩
      · exact .inl ⟨(r2,q),h1,⟨h2,h3⟩,h4⟩
      · exact .inr ⟨(r2,q),h1,h2,h3⟩) ?_ ?_
  ·
   intro ⟨rp,qp⟩ hp
   refine WE.block_panic (Ep ?_)
   refine Epp fun w' hw=>?_
   exact .inr ⟨rp,qp,O,by rw [hR,restP_4 hn34 hn38 hn47,hq54]; simp only [Option.bind_some]; rw [tailP_1 hq62,hq66]; simp only [Option.bind_some]; rw [←must1,hp]; rfl,(by have h:=hw; have h:=Wt 1 h; have h:=Ws.drops h (Vs':=[HT]) (by simp); exact h)⟩
  intro ⟨r72,q72⟩ ⟨hq72,hm72⟩
  have ok72:=tMust ok66 hq72
  refine Ln (Eb (Et (Cs (Cr (V0 (Yda 1 O O ag220 O) (Lst 2 Y O O O sz220 O O O (Ln (Et (Crt ?_)))))))))
  refine WE.retR (rs_1 O (rv_agg 2 O O ag220 O)) fun w' hw=>?_
  exact .inl ⟨TExpr.mk 4 0 p54.1 p54.2 [x66],(some ⟨b67,0,none⟩,1),r72,q72,O,by rw [hR,restP_4 hn34 hn38 hn47,hq54]; simp only [Option.bind_some]; rw [tailP_1 hq62,hq66]; simp only [Option.bind_some]; rw [←must1,hq72]; rfl,slE_of hH67 (nv_vs hw (by simp) fH67) (nv_vs hw (by simp) hf66) ((XEs.nil F66 f).snoc (VLe.refl _) (VLe.refl _) hx66),hm72,Wv 3 (Wt 1 hw)⟩
 obtain ⟨hn62,hl62⟩:=h62f hc5
 subst hl62
 refine Cs (Cr (V0 (Ym O) (Lf 0 O ?_)))
 refine Lw (ι:=Bool×(Option Addr×Nat)×Tk) [_] _ Y O en145 O O (fun i=>.bool i.1) (fun i=>glassL gb i.2.1 i.2.2) (fun i=>(i.1=true→hasT [40] q54=some i.2.2)∧(i.1=false→hasT [40] q54=none∧q54=i.2.2)∧Sl rdTok 3 HT i.2.1.1 i.2.1.2 i.2.2) [HT] (by simp) (fun w hw=>has_any gb HT r62 q54 [40] w hm62 hw) ?_
 intro ⟨b75,r75,q75⟩ ⟨h75t,h75f,hm75⟩
 refine V0 (Ya O) (Ln (Et ?_))
 refine Cc O (fun hc6=>?_) (fun hc6=>?_)
 ·
  have hq75:=h75t hc6
  have ok75:=tHas ok54 hq75
  refine Cr (V0 (Ym O) (V0 (Ym O) ?_))
  refine V0 (Yi O O O (by omega)) ?_
  refine Lf 0 O ?_
  refine Lwy (ι:=((List TExpr)×(Option Addr×Nat))×(Option Addr×Nat)×Tk) (κ:=(Option Addr×Nat)×Tk) [_] _ Y O en184 O O (fun i=>.slice i.1.2.1 i.1.1.length i.1.2.2) (fun i=>glassL gb i.2.1 i.2.2) (fun F i=>argsP (exprP f) q75=some (i.1.1,i.2.2)∧Sl (RdE (f+1)) 5 F i.1.2.1 i.1.2.2 i.1.1∧Sl rdTok 3 HT i.2.1.1 i.2.1.2 i.2.2) (fun _=>brk) (fun i=>glassL gb i.1 i.2) (fun _=>argsP (exprP f) q75=none) ([HT]) (by simp) (fun _ _ h=>h) (fun w hw=>(gargs_any gb HT r75 q75 f (d+1) w hE (by omega) ok75 hm75 hw).mono fun e w' h=>by
      rcases h with ⟨x,s,r2,q,h1,h2,h3,h4,h5⟩ | ⟨r2,q,h1,h2,h3⟩
      · exact .inl ⟨((x,s),r2,q),h1,⟨h2,h3,h4⟩,h5⟩
      · exact .inr ⟨(r2,q),h1,h2,h3⟩) ?_ ?_
  ·
   intro ⟨rp,qp⟩ hp
   refine WE.block_panic (Ep ?_)
   refine Epp fun w' hw=>?_
   exact .inr ⟨rp,qp,O,by rw [hR,restP_4 hn34 hn38 hn47,hq54]; simp only [Option.bind_some]; rw [tailP_2 hn62 hq75,hp]; rfl,(by have h:=hw; have h:=Wt 1 h; exact h)⟩
  intro F79 ⟨⟨xs79,s79⟩,r79,q79⟩ hf79 ⟨hq79,hx79,hm79⟩
  refine V0 (Yf fo220_0 O) (Lst 1 Y O O O sz3 O O O (V0 (Yf fo220_4 O) (Lst 1 Y O O O sz218 O O O (Ln (Eb (Et (Cs (Cr (V0 (Yda 1 O O ag220 O) ?_)))))))))
  refine Lst 2 Y O O O sz220 O O O (Ln (Et (Crt ?_)))
  refine WE.retR (rs_1 O (rv_agg 2 O O ag220 O)) fun w' hw=>?_
  exact .inl ⟨TExpr.mk 5 0 p54.1 p54.2 xs79,s79,r79,q79,O,by rw [hR,restP_4 hn34 hn38 hn47,hq54]; simp only [Option.bind_some]; rw [tailP_2 hn62 hq75,hq79]; rfl,slE_mv hx79 (nv_vs hw (by simp) hf79),hm79,Wv 1 (Wt 1 hw)⟩
 obtain ⟨hn75,hl75⟩:=h75f hc6
 subst hl75
 refine Ck (Eb (Et (Cs (Cr (V0 (Yda 1 O O ag220 O) (Lst 2 Y O O O sz220 O O O (Ln (Et (Crt ?_)))))))))
 refine WE.retR (rs_1 O (rv_agg 2 O O ag220 O)) fun w' hw=>?_
 exact .inl ⟨TExpr.mk 3 0 p54.1 p54.2 [],(none,0),r75,q54,O,by rw [hR,restP_4 hn34 hn38 hn47,hq54]; simp only [Option.bind_some]; rw [tailP_3 hn62 hn75],Sl.nil,hm75,Wt 1 hw⟩
structure SAt where
 s1:Option Addr×Nat
 s2:Option Addr×Nat
 s3:Option Addr×Nat
abbrev SX:=TStmt×SAt
def SX.cells (e:SX):List Value:=stmtV e.1 e.2.s1.1 e.2.s1.2 e.2.s2.1 e.2.s2.2 e.2.s3.1 e.2.s3.2
theorem SX.cells_len (e:SX):(SX.cells e).length=6:=rfl
def rdSX (H:View) (b o:Nat) (e:SX):Prop:=RdC H b o (SX.cells e)
structure SlS (f:Nat) (N:View) (x:TStmt) (p:SAt):Prop where
 args:Sl (RdE 7) 5 N p.s1.1 p.s1.2 x.args
 body:Sl (RdS 7 f) 6 N p.s2.1 p.s2.2 x.body
 other:Sl (RdS 7 f) 6 N p.s3.1 p.s3.2 x.other
theorem slS_mv {H N:View} {f c:Nat} {a:Option Addr} {l:List TStmt} (h:Sl (RdS 7 f) 6 H a c l) (hv:VLe H N):Sl (RdS 7 f) 6 N a c l:=h.imp fun b o y hy=>RdS_mono hv (Nat.le_refl _) (Nat.le_refl _) b o y hy
theorem SlS.mv {f:Nat} {H N:View} {x:TStmt} {p:SAt} (h:SlS f H x p) (hv:VLe H N):SlS f N x p:=⟨slE_mv h.args hv,slS_mv h.body hv,slS_mv h.other hv⟩
def SXs (J:View) (f:Nat) (es:List SX):Prop:=∀e ∈ es,SlS f J e.1 e.2
theorem SXs.nil (J:View) (f:Nat):SXs J f []:=by intro e h; simp at h
theorem SXs.snoc {J J1 J2:View} {f:Nat} {es:List SX} {e:SX} (h:SXs J f es) (h1:VLe J J2) (h2:VLe J1 J2) (he:SlS f J1 e.1 e.2):SXs J2 f (es++[e]):=by
 intro x hx
 rcases List.mem_append.1 hx with hx | hx
 · exact (h x hx).mv h1
 · rw [List.mem_singleton] at hx
   subst hx
   exact he.mv h2
theorem slS_of {H J N:View} {f c:Nat} {a:Option Addr} {es:List SX} (h:Sl rdSX 6 H a c es) (hv:VLe H N) (hJ:VLe J N) (hes:SXs J f es):Sl (RdS 7 (f+1)) 6 N a c (es.map (·.1)):=by
 refine ⟨by simpa using h.cap,h.max,h.spot,fun i x hx=>?_⟩
 rw [List.getElem?_map] at hx
 obtain ⟨e,he,rfl⟩:=Option.map_eq_some_iff.1 hx
 obtain ⟨b,o,h1,h2⟩:=h.elt i e he
 have h3:=(hes e (List.mem_of_getElem? he)).mv hJ
 exact ⟨b,o,h1,e.2.s1.1,e.2.s1.2,e.2.s2.1,e.2.s2.2,e.2.s3.1,e.2.s3.2,RdC.mono hv h2,h3.args,h3.body,h3.other⟩
structure GS where
 es:List SX
 a:Option Addr
 c:Nat
 J:View
 r:Option Addr×Nat
 q:Tk
def GlassB (HT:View) (f:Nat):Prop:=∀(gb:Nat) (r:Option Addr×Nat) (l:Tk) (d:Nat) (w:World),f+d=7→TOk l→Sl rdTok 3 HT r.1 r.2 l→Ws w (List.flatMap Asr.ids (glassL gb r l)) (glassL gb r l) [HT] w→
 Calls Tryz.prog 148 #[.pointer (some ⟨gb,0,none⟩),.int .i64 (d:Int)] w fun e w'=>(∃(x:List TStmt) (s:Option Addr×Nat) (r2:Option Addr×Nat) (q:Tk),e = .returned (.slice s.1 x.length s.2)∧blockP f l=some (x,q)∧Sl (RdS 7 f) 6 (nv w w') s.1 s.2 x∧Sl rdTok 3 HT r2.1 r2.2 q∧Ws w (List.flatMap Asr.ids (glassL gb r l)) (glassL gb r2 q) [HT] w')∨(∃(r2:Option Addr×Nat) (q:Tk),e = .panicked brk∧blockP f l=none∧Ws w (List.flatMap Asr.ids (glassL gb r l)) (glassL gb r2 q) [HT] w')
theorem tBlock {l r:Tk} {f:Nat} {x:List TStmt} (h:TOk l) (e:blockP f l=some (x,r)):TOk r:=tEats h (blockP_eats f l x r h.all e)
theorem tStmt {l r:Tk} {f:Nat} {x:TStmt} (h:TOk l) (e:stmtP (blockP f) l=some (x,r)):TOk r:=tEats h (stmtP_eats (blockP_eats f) h.all e)
theorem tArgs {l r:Tk} {xs:List TExpr} (h:TOk l) (e:argsP (exprP 6) l=some (xs,r)):TOk r:=by
 unfold argsP at e
 cases hd:hasT [41] l with
 | some q=>
   rw [hd] at e
   simp only [Option.some.injEq,Prod.mk.injEq] at e
   obtain ⟨_,rfl⟩:=e
   exact tHas h hd
 | none=>
   rw [hd] at e
   exact tEats h (argsL_eats (exprP_eats 6) _ _ _ _ h.all e)
theorem must2s {v w:Tx} {l q:Tk} (h:mustT [v,w] l=some q):∃q1,hasT v l=some q1∧hasT w q1=some q:=by rw [must2] at h; exact Option.bind_eq_some_iff.1 h
theorem must2n {v w:Tx} {l:Tk} (h:mustT [v,w] l=none):hasT v l=none∨∃q1,hasT v l=some q1∧hasT w q1=none:=by
 rw [must2] at h
 cases hv:hasT v l with
 | none=>exact .inl rfl
 | some q1=>rw [hv] at h; exact .inr ⟨q1,rfl,h⟩
theorem stmtsL_end {ps:Tk→Option (TStmt×Tk)} {n:Nat} {l q:Tk} (h:hasT [125] l=some q):stmtsL ps (n+1) l=some ([],q):=by rw [stmtsL,h]
theorem stmtsL_more {ps:Tk→Option (TStmt×Tk)} {n:Nat} {l q:Tk} {x:TStmt} (h:hasT [125] l=none) (h1:ps l=some (x,q)):stmtsL ps (n+1) l=(stmtsL ps n q).map fun p=>(x::p.1,p.2):=by rw [stmtsL,h]; simp only; rw [h1]; rfl
theorem stmtsL_bad {ps:Tk→Option (TStmt×Tk)} {n:Nat} {l:Tk} (h:hasT [125] l=none) (h1:ps l=none):stmtsL ps (n+1) l=none:=by rw [stmtsL,h]; simp only; rw [h1]; rfl
theorem en148:Enters Tryz.prog 148:=enters_of Tryz.func148 (by kernel_rfl) rfl
theorem sz172:sizeP Tryz.prog 172=some 1:=by kernel_rfl
theorem sz9:sizeP Tryz.prog 9=some 1:=by kernel_rfl
theorem en172:Enters Tryz.prog 172:=enters_of Tryz.func172 (by kernel_rfl) rfl
theorem el172:EltOk Tryz.prog 172 222 (.agg #[.int .i64 0,st [],st [],.slice none 0 0,.slice none 0 0,.slice none 0 0]) 6 112:=eltOk_of (by kernel_rfl)
theorem gstmt_any (gb:Nat) (HT:View) (r:Option Addr×Nat) (l:Tk) (f d:Nat) (w:World) (hB:GlassB HT f) (hfd:f+(d+1)=7) (hok:TOk l) (hm:Sl rdTok 3 HT r.1 r.2 l) (hw:Ws w (List.flatMap Asr.ids (glassL gb r l)) (glassL gb r l) [HT] w) :
   Calls Tryz.prog 172 #[.pointer (some ⟨gb,0,none⟩),.int .i64 (d:Int)] w fun e w'=>(∃(x:TStmt) (p:SAt) (r2:Option Addr×Nat) (q:Tk),e = .returned (.agg #[.int .i64 (x).op,st (x).mod,st (x).nm,.slice (p).s1.1 (x).args.length (p).s1.2,.slice (p).s2.1 (x).body.length (p).s2.2,.slice (p).s3.1 (x).other.length (p).s3.2])∧stmtP (blockP f) l=some (x,q)∧SlS f (nv w w') x p∧Sl rdTok 3 HT r2.1 r2.2 q∧Ws w (List.flatMap Asr.ids (glassL gb r l)) (glassL gb r2 q) [HT] w')∨(∃(r2:Option Addr×Nat) (q:Tk),e = .panicked brk∧stmtP (blockP f) l=none∧Ws w (List.flatMap Asr.ids (glassL gb r l)) (glassL gb r2 q) [HT] w'):=by
 refine enter Tryz.func172 O 104 O O ?_
 refine CE hw ?_
 refine Cs (Cr ?_)
 refine Al Y O zr222 fun b4=>?_
 refine Lrb 0 (.cells (stmtV (TStmt.mk 0 [] [] [] [] []) none 0 none 0 none 0).toArray 222 (0,0)) O O ?_
 refine Ln (Et (Cs (Cr ?_)))
 refine Al Y O zr222 fun b5=>?_
 refine Lrb 0 (.cells (stmtV (TStmt.mk 0 [] [] [] [] []) none 0 none 0 none 0).toArray 222 (0,0)) O O ?_
 refine Ln (Et (Cs (Cb (Cs (Cr (V0 (Ym O) (Lf 2 O ?_)))))))
 refine Lw (ι:=Bool×(Option Addr×Nat)×Tk) [_] _ Y O en145 O O (fun i=>.bool i.1) (fun i=>glassL gb i.2.1 i.2.2) (fun i=>(i.1=true→hasT [105,102] l=some i.2.2)∧(i.1=false→hasT [105,102] l=none∧l=i.2.2)∧Sl rdTok 3 HT i.2.1.1 i.2.1.2 i.2.2) [HT] (by simp) (fun w hw=>has_any gb HT r l [105,102] w hm hw) ?_
 intro ⟨b45,r45,q45⟩ ⟨h45t,h45f,hm45⟩
 refine V0 (Ya O) (Ln (Et ?_))
 refine Cc O (fun hc0=>?_) (fun hc0=>?_)
 ·
  have hq45:=h45t hc0
  have ok45:=tHas hok hq45
  refine Cs (Cr (V0 (Ym O) (Lf 0 O ?_)))
  refine Lwy (ι:=(TExpr×(Option Addr×Nat))×(Option Addr×Nat)×Tk) (κ:=(Option Addr×Nat)×Tk) [_] _ Y O en182 O O (fun i=>.agg #[.int .i64 (i.1.1).op,.int .i64 (i.1.1).n,st (i.1.1).mod,st (i.1.1).nm,.slice i.1.2.1 (i.1.1).args.length i.1.2.2]) (fun i=>glassL gb i.2.1 i.2.2) (fun F i=>exprP 6 q45=some (i.1.1,i.2.2)∧Sl (RdE 6) 5 F i.1.2.1 i.1.2.2 i.1.1.args∧Sl rdTok 3 HT i.2.1.1 i.2.1.2 i.2.2) (fun _=>brk) (fun i=>glassL gb i.1 i.2) (fun _=>exprP 6 q45=none) ([HT]) (by simp) (fun _ _ h=>h) (fun w hw=>((fun gb r l d w h1 h2 h3 h4=>gexpr_any HT 6 gb r l d w h1 h2 h3 h4) gb r45 q45 1 w O ok45 hm45 hw).mono fun e w' h=>by
      rcases h with ⟨x,s,r2,q,h1,h2,h3,h4,h5⟩ | ⟨r2,q,h1,h2,h3⟩
      · exact .inl ⟨((x,s),r2,q),h1,⟨h2,h3,h4⟩,h5⟩
      · exact .inr ⟨(r2,q),h1,h2,h3⟩) ?_ ?_
  ·
   intro ⟨rp,qp⟩ hp
   refine Ep (WE.block_panic (Ep ?_))
   refine Epp fun w' hw=>?_
   exact .inr ⟨rp,qp,O,by simp only [stmtP,simpleP,w_if,w_else,w_while,w_return,w_out,hq45,hp,Option.bind_some,Option.map_some,Option.bind_none,Option.map_none],(by have h:=hw; have h:=Wt 1 h; exact h)⟩
  intro F47 ⟨⟨x47,s47⟩,r47,q47⟩ hf47 ⟨hq47,hx47,hm47⟩
  have ok47:TOk q47:=tExpr ok45 hq47
  have le47:q47.length+1≤List.length (q45):=expr_len ok45 hq47
  refine Lb Y O el218 O O O O fun b48=>?_
  refine LN (rd:=rdXE) (f:=XE.cells) (m:=1) 0 [(x47,s47.1,s47.2)] O O (fun k hk=>by simp [glassL,blk] at hk; subst hk; simp [outOf,glassL,blk,osl]) XE.cells_len (fun _ _ _ _ h=>h) (show 1≤1 by decide) (by decide) fun H48 fH48 hH48=>?_
  refine V0 (Yf fo222_0 O) (Lst 1 Y O O O sz3 O O O (V0 (Yf fo222_3 O) (Lst 1 Y O O O sz218 O O O (Ln (Et (Cs (Cr (V0 (Ym O) ?_))))))))
  refine V0 (Ym O) ?_
  refine V0 (Yi O O O (by omega)) ?_
  refine Lf 0 O ?_
  refine Lwy (ι:=((List TStmt)×(Option Addr×Nat))×(Option Addr×Nat)×Tk) (κ:=(Option Addr×Nat)×Tk) [_] _ Y O en148 O O (fun i=>.slice i.1.2.1 i.1.1.length i.1.2.2) (fun i=>glassL gb i.2.1 i.2.2) (fun F i=>blockP f q47=some (i.1.1,i.2.2)∧Sl (RdS 7 f) 6 F i.1.2.1 i.1.2.2 i.1.1∧Sl rdTok 3 HT i.2.1.1 i.2.1.2 i.2.2) (fun _=>brk) (fun i=>glassL gb i.1 i.2) (fun _=>blockP f q47=none) ([HT]) (by simp) (fun _ _ h=>h) (fun w hw=>(hB gb r47 q47 (d+1) w (by omega) ok47 hm47 hw).mono fun e w' h=>by
      rcases h with ⟨x,s,r2,q,h1,h2,h3,h4,h5⟩ | ⟨r2,q,h1,h2,h3⟩
      · exact .inl ⟨((x,s),r2,q),h1,⟨h2,h3,h4⟩,h5⟩
      · exact .inr ⟨(r2,q),h1,h2,h3⟩) ?_ ?_
  ·
   intro ⟨rp,qp⟩ hp
   refine Ep (WE.block_panic (Ep ?_))
   refine Epp fun w' hw=>?_
   exact .inr ⟨rp,qp,O,by simp only [stmtP,simpleP,w_if,w_else,w_while,w_return,w_out,hq45,hq47,hp,Option.bind_some,Option.map_some,Option.bind_none,Option.map_none],(by have h:=hw; have h:=Wt 1 h; have h:=Ws.drops h (Vs':=[HT]) (by simp); exact h)⟩
  intro F54 ⟨⟨b_54,s54⟩,r54,q54⟩ hf54 ⟨hq54,hx54,hm54⟩
  have ok54:TOk q54:=tBlock ok47 hq54
  refine V0 (Yf fo222_4 O) (Lst 1 Y O O O sz172 O O O (Ln (Et (Cs (Cs (Cr (V0 (Ym O) (Lf 0 O ?_))))))))
  refine Lw (ι:=Bool×(Option Addr×Nat)×Tk) [_] _ Y O en145 O O (fun i=>.bool i.1) (fun i=>glassL gb i.2.1 i.2.2) (fun i=>(i.1=true→hasT [101,108,115,101] q54=some i.2.2)∧(i.1=false→hasT [101,108,115,101] q54=none∧q54=i.2.2)∧Sl rdTok 3 HT i.2.1.1 i.2.1.2 i.2.2) [HT] (by simp) (fun w hw=>has_any gb HT r54 q54 [101,108,115,101] w hm54 hw) ?_
  intro ⟨b57,r57,q57⟩ ⟨h57t,h57f,hm57⟩
  refine Ln (Et ?_)
  refine Cc O (fun hc1=>?_) (fun hc1=>?_)
  ·
   have hq57:=h57t hc1
   have ok57:=tHas ok54 hq57
   refine Cs (Cr (V0 (Ym O) (V0 (Ym O) ?_)))
   refine V0 (Yi O O O (by omega)) ?_
   refine Lf 0 O ?_
   refine Lwy (ι:=((List TStmt)×(Option Addr×Nat))×(Option Addr×Nat)×Tk) (κ:=(Option Addr×Nat)×Tk) [_] _ Y O en148 O O (fun i=>.slice i.1.2.1 i.1.1.length i.1.2.2) (fun i=>glassL gb i.2.1 i.2.2) (fun F i=>blockP f q57=some (i.1.1,i.2.2)∧Sl (RdS 7 f) 6 F i.1.2.1 i.1.2.2 i.1.1∧Sl rdTok 3 HT i.2.1.1 i.2.1.2 i.2.2) (fun _=>brk) (fun i=>glassL gb i.1 i.2) (fun _=>blockP f q57=none) ([HT]) (by simp) (fun _ _ h=>h) (fun w hw=>(hB gb r57 q57 (d+1) w (by omega) ok57 hm57 hw).mono fun e w' h=>by
       rcases h with ⟨x,s,r2,q,h1,h2,h3,h4,h5⟩ | ⟨r2,q,h1,h2,h3⟩
       · exact .inl ⟨((x,s),r2,q),h1,⟨h2,h3,h4⟩,h5⟩
       · exact .inr ⟨(r2,q),h1,h2,h3⟩) ?_ ?_
   ·
    intro ⟨rp,qp⟩ hp
    refine Ep (Ep (WE.block_panic (Ep ?_)))
    refine Epp fun w' hw=>?_
    exact .inr ⟨rp,qp,O,by simp only [stmtP,simpleP,w_if,w_else,w_while,w_return,w_out,hq45,hq47,hq54,hq57,hp,Option.bind_some,Option.map_some,Option.bind_none,Option.map_none],(by have h:=hw; have h:=Wt 1 h; have h:=Ws.drops h (Vs':=[HT]) (by simp); exact h)⟩
   intro F61 ⟨⟨b_61,s61⟩,r61,q61⟩ hf61 ⟨hq61,hx61,hm61⟩
   have ok61:TOk q61:=tBlock ok57 hq61
   refine V0 (Yf fo222_5 O) (Lst 1 Y O O O sz172 O O O (Ln (Et (Cs (Cr (V0 (Yf fo222_5 O) (V0 (Yd 1 O O O na172) (V0 (Yn es172 O) ?_))))))))
   refine V0 (yl_eq O O) (Ln (Et ?_))
   refine Cc O (fun hc2=>?_) (fun hc2=>?_)
   ·
    have hz:b_61.length=0:=by simpa using hc2
    refine Cr (V0 (Yb zr230 pl230 O O) (V0 (yl_mki co230 O) ?_))
    refine WL.panic Y O ?_
    refine Ep (WE.block_panic (Ep ?_))
    refine Epp fun w' hw=>?_
    exact .inr ⟨r61,q61,O,by simp only [stmtP,simpleP,w_if,w_else,w_while,w_return,w_out,hq45,hq47,hq54,hq57,hq61,Option.bind_some,Option.map_some,Option.bind_none,Option.map_none,if_pos hz],(by have h:=hw; have h:=Wt 1 h; have h:=Ws.drops h (Vs':=[HT]) (by simp); exact h)⟩
   have hz:¬b_61.length=0:=by simpa using hc2
   refine Ck (Et (Cs (Cr (V0 (Yda 1 O O ag222 O) (Lst 2 Y O O O sz222 O O O (Ln (Et (Crt (Ebr (Er ?_))))))))))
   refine WE.retR (rs_1 O (rv_agg 2 O O ag222 O)) fun w' hw=>?_
   exact .inl ⟨TStmt.mk 4 [] [] [x47] b_54 b_61,⟨(some ⟨b48,0,none⟩,1),s54,s61⟩,r61,q61,O,by simp only [stmtP,simpleP,w_if,w_else,w_while,w_return,w_out,hq45,hq47,hq54,hq57,hq61,Option.bind_some,Option.map_some,Option.bind_none,Option.map_none,if_neg hz],⟨(slE_of hH48 (nv_vs hw (by simp) fH48) (nv_vs hw (by simp) hf47) ((XEs.nil F47 6).snoc (VLe.refl _) (VLe.refl _) hx47)),(slS_mv hx54 (nv_vs hw (by simp) hf54)),(slS_mv hx61 (nv_vs hw (by simp) hf61))⟩,hm61,Wv 4 (Wt 1 hw)⟩
  obtain ⟨hn57,hl57⟩:=h57f hc1
  subst hl57
  refine Ck (Et (Cs (Cr (V0 (Yda 1 O O ag222 O) (Lst 2 Y O O O sz222 O O O (Ln (Et (Crt (Ebr (Er ?_))))))))))
  refine WE.retR (rs_1 O (rv_agg 2 O O ag222 O)) fun w' hw=>?_
  exact .inl ⟨TStmt.mk 4 [] [] [x47] b_54 [],⟨(some ⟨b48,0,none⟩,1),s54,((none,0):Option Addr×Nat)⟩,r57,q54,O,by simp only [stmtP,simpleP,w_if,w_else,w_while,w_return,w_out,hq45,hq47,hq54,hn57,Option.bind_some,Option.map_some,Option.bind_none,Option.map_none],⟨(slE_of hH48 (nv_vs hw (by simp) fH48) (nv_vs hw (by simp) hf47) ((XEs.nil F47 6).snoc (VLe.refl _) (VLe.refl _) hx47)),(slS_mv hx54 (nv_vs hw (by simp) hf54)),Sl.nil⟩,hm57,Wv 3 (Wt 1 hw)⟩
 obtain ⟨hn45,hl45⟩:=h45f hc0
 subst hl45
 refine Cs (Cr (V0 (Ym O) (Lf 0 O ?_)))
 refine Lw (ι:=Bool×(Option Addr×Nat)×Tk) [_] _ Y O en145 O O (fun i=>.bool i.1) (fun i=>glassL gb i.2.1 i.2.2) (fun i=>(i.1=true→hasT [119,104,105,108,101] l=some i.2.2)∧(i.1=false→hasT [119,104,105,108,101] l=none∧l=i.2.2)∧Sl rdTok 3 HT i.2.1.1 i.2.1.2 i.2.2) [HT] (by simp) (fun w hw=>has_any gb HT r45 l [119,104,105,108,101] w hm45 hw) ?_
 intro ⟨b72,r72,q72⟩ ⟨h72t,h72f,hm72⟩
 refine V0 (Ya O) (Ln (Et ?_))
 refine Cc O (fun hc3=>?_) (fun hc3=>?_)
 ·
  have hq72:=h72t hc3
  have ok72:=tHas hok hq72
  refine Cs (Cr (V0 (Ym O) (Lf 0 O ?_)))
  refine Lwy (ι:=(TExpr×(Option Addr×Nat))×(Option Addr×Nat)×Tk) (κ:=(Option Addr×Nat)×Tk) [_] _ Y O en182 O O (fun i=>.agg #[.int .i64 (i.1.1).op,.int .i64 (i.1.1).n,st (i.1.1).mod,st (i.1.1).nm,.slice i.1.2.1 (i.1.1).args.length i.1.2.2]) (fun i=>glassL gb i.2.1 i.2.2) (fun F i=>exprP 6 q72=some (i.1.1,i.2.2)∧Sl (RdE 6) 5 F i.1.2.1 i.1.2.2 i.1.1.args∧Sl rdTok 3 HT i.2.1.1 i.2.1.2 i.2.2) (fun _=>brk) (fun i=>glassL gb i.1 i.2) (fun _=>exprP 6 q72=none) ([HT]) (by simp) (fun _ _ h=>h) (fun w hw=>((fun gb r l d w h1 h2 h3 h4=>gexpr_any HT 6 gb r l d w h1 h2 h3 h4) gb r72 q72 1 w O ok72 hm72 hw).mono fun e w' h=>by
      rcases h with ⟨x,s,r2,q,h1,h2,h3,h4,h5⟩ | ⟨r2,q,h1,h2,h3⟩
      · exact .inl ⟨((x,s),r2,q),h1,⟨h2,h3,h4⟩,h5⟩
      · exact .inr ⟨(r2,q),h1,h2,h3⟩) ?_ ?_
  ·
   intro ⟨rp,qp⟩ hp
   refine Ep (WE.block_panic (Ep ?_))
   refine Epp fun w' hw=>?_
   exact .inr ⟨rp,qp,O,by simp only [stmtP,simpleP,w_if,w_else,w_while,w_return,w_out,hn45,hq72,hp,Option.bind_some,Option.map_some,Option.bind_none,Option.map_none],(by have h:=hw; have h:=Wt 1 h; exact h)⟩
  intro F74 ⟨⟨x74,s74⟩,r74,q74⟩ hf74 ⟨hq74,hx74,hm74⟩
  have ok74:TOk q74:=tExpr ok72 hq74
  have le74:q74.length+1≤List.length (q72):=expr_len ok72 hq74
  refine Lb Y O el218 O O O O fun b75=>?_
  refine LN (rd:=rdXE) (f:=XE.cells) (m:=1) 0 [(x74,s74.1,s74.2)] O O (fun k hk=>by simp [glassL,blk] at hk; subst hk; simp [outOf,glassL,blk,osl]) XE.cells_len (fun _ _ _ _ h=>h) (show 1≤1 by decide) (by decide) fun H75 fH75 hH75=>?_
  refine V0 (Yf fo222_0 O) (Lst 1 Y O O O sz3 O O O (V0 (Yf fo222_3 O) (Lst 1 Y O O O sz218 O O O (Ln (Et (Cs (Cr (V0 (Ym O) ?_))))))))
  refine V0 (Ym O) ?_
  refine V0 (Yi O O O (by omega)) ?_
  refine Lf 0 O ?_
  refine Lwy (ι:=((List TStmt)×(Option Addr×Nat))×(Option Addr×Nat)×Tk) (κ:=(Option Addr×Nat)×Tk) [_] _ Y O en148 O O (fun i=>.slice i.1.2.1 i.1.1.length i.1.2.2) (fun i=>glassL gb i.2.1 i.2.2) (fun F i=>blockP f q74=some (i.1.1,i.2.2)∧Sl (RdS 7 f) 6 F i.1.2.1 i.1.2.2 i.1.1∧Sl rdTok 3 HT i.2.1.1 i.2.1.2 i.2.2) (fun _=>brk) (fun i=>glassL gb i.1 i.2) (fun _=>blockP f q74=none) ([HT]) (by simp) (fun _ _ h=>h) (fun w hw=>(hB gb r74 q74 (d+1) w (by omega) ok74 hm74 hw).mono fun e w' h=>by
      rcases h with ⟨x,s,r2,q,h1,h2,h3,h4,h5⟩ | ⟨r2,q,h1,h2,h3⟩
      · exact .inl ⟨((x,s),r2,q),h1,⟨h2,h3,h4⟩,h5⟩
      · exact .inr ⟨(r2,q),h1,h2,h3⟩) ?_ ?_
  ·
   intro ⟨rp,qp⟩ hp
   refine Ep (WE.block_panic (Ep ?_))
   refine Epp fun w' hw=>?_
   exact .inr ⟨rp,qp,O,by simp only [stmtP,simpleP,w_if,w_else,w_while,w_return,w_out,hn45,hq72,hq74,hp,Option.bind_some,Option.map_some,Option.bind_none,Option.map_none],(by have h:=hw; have h:=Wt 1 h; have h:=Ws.drops h (Vs':=[HT]) (by simp); exact h)⟩
  intro F81 ⟨⟨b_81,s81⟩,r81,q81⟩ hf81 ⟨hq81,hx81,hm81⟩
  have ok81:TOk q81:=tBlock ok74 hq81
  refine V0 (Yf fo222_4 O) (Lst 1 Y O O O sz172 O O O (Ln (Et (Cs (Cr (V0 (Yda 1 O O ag222 O) (Lst 2 Y O O O sz222 O O O (Ln (Et (Crt (Ebr (Er ?_))))))))))))
  refine WE.retR (rs_1 O (rv_agg 2 O O ag222 O)) fun w' hw=>?_
  exact .inl ⟨TStmt.mk 5 [] [] [x74] b_81 [],⟨(some ⟨b75,0,none⟩,1),s81,((none,0):Option Addr×Nat)⟩,r81,q81,O,by simp only [stmtP,simpleP,w_if,w_else,w_while,w_return,w_out,hn45,hq72,hq74,hq81,Option.bind_some,Option.map_some,Option.bind_none,Option.map_none],⟨(slE_of hH75 (nv_vs hw (by simp) fH75) (nv_vs hw (by simp) hf74) ((XEs.nil F74 6).snoc (VLe.refl _) (VLe.refl _) hx74)),(slS_mv hx81 (nv_vs hw (by simp) hf81)),Sl.nil⟩,hm81,Wv 3 (Wt 1 hw)⟩
 obtain ⟨hn72,hl72⟩:=h72f hc3
 subst hl72
 refine Cs (Cr (V0 (Ym O) (Lf 0 O ?_)))
 refine Lw (ι:=Bool×(Option Addr×Nat)×Tk) [_] _ Y O en145 O O (fun i=>.bool i.1) (fun i=>glassL gb i.2.1 i.2.2) (fun i=>(i.1=true→hasT [114,101,116,117,114,110] l=some i.2.2)∧(i.1=false→hasT [114,101,116,117,114,110] l=none∧l=i.2.2)∧Sl rdTok 3 HT i.2.1.1 i.2.1.2 i.2.2) [HT] (by simp) (fun w hw=>has_any gb HT r72 l [114,101,116,117,114,110] w hm72 hw) ?_
 intro ⟨b86,r86,q86⟩ ⟨h86t,h86f,hm86⟩
 refine V0 (Ya O) (Ln (Et ?_))
 refine Cc O (fun hc4=>?_) (fun hc4=>?_)
 ·
  have hq86:=h86t hc4
  have ok86:=tHas hok hq86
  refine Cr (V0 (Ym O) (Lf 0 O ?_))
  refine Lwy (ι:=(TExpr×(Option Addr×Nat))×(Option Addr×Nat)×Tk) (κ:=(Option Addr×Nat)×Tk) [_] _ Y O en182 O O (fun i=>.agg #[.int .i64 (i.1.1).op,.int .i64 (i.1.1).n,st (i.1.1).mod,st (i.1.1).nm,.slice i.1.2.1 (i.1.1).args.length i.1.2.2]) (fun i=>glassL gb i.2.1 i.2.2) (fun F i=>exprP 6 q86=some (i.1.1,i.2.2)∧Sl (RdE 6) 5 F i.1.2.1 i.1.2.2 i.1.1.args∧Sl rdTok 3 HT i.2.1.1 i.2.1.2 i.2.2) (fun _=>brk) (fun i=>glassL gb i.1 i.2) (fun _=>exprP 6 q86=none) ([HT]) (by simp) (fun _ _ h=>h) (fun w hw=>((fun gb r l d w h1 h2 h3 h4=>gexpr_any HT 6 gb r l d w h1 h2 h3 h4) gb r86 q86 1 w O ok86 hm86 hw).mono fun e w' h=>by
      rcases h with ⟨x,s,r2,q,h1,h2,h3,h4,h5⟩ | ⟨r2,q,h1,h2,h3⟩
      · exact .inl ⟨((x,s),r2,q),h1,⟨h2,h3,h4⟩,h5⟩
      · exact .inr ⟨(r2,q),h1,h2,h3⟩) ?_ ?_
  ·
   intro ⟨rp,qp⟩ hp
   refine WE.block_panic (Ep ?_)
   refine Epp fun w' hw=>?_
   exact .inr ⟨rp,qp,O,by simp only [stmtP,simpleP,w_if,w_else,w_while,w_return,w_out,hn45,hn72,hq86,hp,Option.bind_some,Option.map_some,Option.bind_none,Option.map_none],(by have h:=hw; have h:=Wt 1 h; exact h)⟩
  intro F88 ⟨⟨x88,s88⟩,r88,q88⟩ hf88 ⟨hq88,hx88,hm88⟩
  have ok88:TOk q88:=tExpr ok86 hq88
  have le88:q88.length+1≤List.length (q86):=expr_len ok86 hq88
  refine Lb Y O el218 O O O O fun b89=>?_
  refine LN (rd:=rdXE) (f:=XE.cells) (m:=1) 0 [(x88,s88.1,s88.2)] O O (fun k hk=>by simp [glassL,blk] at hk; subst hk; simp [outOf,glassL,blk,osl]) XE.cells_len (fun _ _ _ _ h=>h) (show 1≤1 by decide) (by decide) fun H89 fH89 hH89=>?_
  refine V0 (Yf fo222_0 O) (Lst 1 Y O O O sz3 O O O (V0 (Yf fo222_3 O) (Lst 1 Y O O O sz218 O O O (Ln (Eb (Et (Cs (Cr (V0 (Ym O) ?_)))))))))
  refine Lb Y O el22 O O O O fun b101=>?_
  refine Lsv (T:=9) (m:=1) 0 [[59]] O O (show 1≤1 by decide) (by decide) fun H101 hH101=>?_
  refine Lf 0 O ?_
  refine Lwx (ι:=(Option Addr×Nat)×Tk) (κ:=(Option Addr×Nat)×Tk) [_] _ Y O en143 O O (fun _=>.tuple #[]) (fun i=>glassL gb i.1 i.2) (fun i=>mustT [[59]] q88=some i.2∧Sl rdTok 3 HT i.1.1 i.1.2 i.2) (fun _=>brk) (fun i=>glassL gb i.1 i.2) (fun _=>mustT [[59]] q88=none) ([HT,H101]) (by simp) (fun w hw=>(must_any gb HT r88 q88 H101 _ _ [[59]] w hH101 hm88 hw).mono fun e w' h=>by
      rcases h with ⟨r2,q,h1,h2,h3,h4⟩ | ⟨r2,q,h1,h2,h3⟩
      · exact .inl ⟨(r2,q),h1,⟨h2,h3⟩,h4⟩
      · exact .inr ⟨(r2,q),h1,h2,h3⟩) ?_ ?_
  ·
   intro ⟨rp,qp⟩ hp
   rw [must1] at hp
   refine Ep ?_
   refine Epp fun w' hw=>?_
   exact .inr ⟨rp,qp,O,by simp only [stmtP,simpleP,w_if,w_else,w_while,w_return,w_out,hn45,hn72,hq86,hq88,hp,Option.bind_some,Option.map_some,Option.bind_none,Option.map_none],(by have h:=hw; have h:=Wt 1 h; have h:=Ws.drops h (Vs':=[HT]) (by simp); exact h)⟩
  intro ⟨r102,q102⟩ ⟨hq102,hm102⟩
  have ok102:=tMust ok88 hq102
  rw [must1] at hq102
  refine Ln (Et (Cs (Cr (V0 (Yda 1 O O ag222 O) (Lst 2 Y O O O sz222 O O O (Ln (Et (Crt ?_))))))))
  refine WE.retR (rs_1 O (rv_agg 2 O O ag222 O)) fun w' hw=>?_
  exact .inl ⟨TStmt.mk 6 [] [] [x88] [] [],⟨(some ⟨b89,0,none⟩,1),((none,0):Option Addr×Nat),((none,0):Option Addr×Nat)⟩,r102,q102,O,by simp only [stmtP,simpleP,w_if,w_else,w_while,w_return,w_out,hn45,hn72,hq86,hq88,hq102,Option.bind_some,Option.map_some,Option.bind_none,Option.map_none],⟨(slE_of hH89 (nv_vs hw (by simp) fH89) (nv_vs hw (by simp) hf88) ((XEs.nil F88 6).snoc (VLe.refl _) (VLe.refl _) hx88)),Sl.nil,Sl.nil⟩,hm102,Wv 3 (Wt 1 hw)⟩
 obtain ⟨hn86,hl86⟩:=h86f hc4
 subst hl86
 refine Cs (Cr (V0 (Ym O) (Lf 0 O ?_)))
 refine Lw (ι:=Bool×(Option Addr×Nat)×Tk) [_] _ Y O en145 O O (fun i=>.bool i.1) (fun i=>glassL gb i.2.1 i.2.2) (fun i=>(i.1=true→hasT [111,117,116] l=some i.2.2)∧(i.1=false→hasT [111,117,116] l=none∧l=i.2.2)∧Sl rdTok 3 HT i.2.1.1 i.2.1.2 i.2.2) [HT] (by simp) (fun w hw=>has_any gb HT r86 l [111,117,116] w hm86 hw) ?_
 intro ⟨b94,r94,q94⟩ ⟨h94t,h94f,hm94⟩
 refine V0 (Ya O) (Ln (Et ?_))
 refine Cc O (fun hc5=>?_) (fun hc5=>?_)
 ·
  have hq94:=h94t hc5
  have ok94:=tHas hok hq94
  refine Cr (V0 (Ym O) (Lf 0 O ?_))
  refine Lwy (ι:=(TExpr×(Option Addr×Nat))×(Option Addr×Nat)×Tk) (κ:=(Option Addr×Nat)×Tk) [_] _ Y O en182 O O (fun i=>.agg #[.int .i64 (i.1.1).op,.int .i64 (i.1.1).n,st (i.1.1).mod,st (i.1.1).nm,.slice i.1.2.1 (i.1.1).args.length i.1.2.2]) (fun i=>glassL gb i.2.1 i.2.2) (fun F i=>exprP 6 q94=some (i.1.1,i.2.2)∧Sl (RdE 6) 5 F i.1.2.1 i.1.2.2 i.1.1.args∧Sl rdTok 3 HT i.2.1.1 i.2.1.2 i.2.2) (fun _=>brk) (fun i=>glassL gb i.1 i.2) (fun _=>exprP 6 q94=none) ([HT]) (by simp) (fun _ _ h=>h) (fun w hw=>((fun gb r l d w h1 h2 h3 h4=>gexpr_any HT 6 gb r l d w h1 h2 h3 h4) gb r94 q94 1 w O ok94 hm94 hw).mono fun e w' h=>by
      rcases h with ⟨x,s,r2,q,h1,h2,h3,h4,h5⟩ | ⟨r2,q,h1,h2,h3⟩
      · exact .inl ⟨((x,s),r2,q),h1,⟨h2,h3,h4⟩,h5⟩
      · exact .inr ⟨(r2,q),h1,h2,h3⟩) ?_ ?_
  ·
   intro ⟨rp,qp⟩ hp
   refine WE.block_panic (Ep ?_)
   refine Epp fun w' hw=>?_
   exact .inr ⟨rp,qp,O,by simp only [stmtP,simpleP,w_if,w_else,w_while,w_return,w_out,hn45,hn72,hn86,hq94,hp,Option.bind_some,Option.map_some,Option.bind_none,Option.map_none],(by have h:=hw; have h:=Wt 1 h; exact h)⟩
  intro F96 ⟨⟨x96,s96⟩,r96,q96⟩ hf96 ⟨hq96,hx96,hm96⟩
  have ok96:TOk q96:=tExpr ok94 hq96
  have le96:q96.length+1≤List.length (q94):=expr_len ok94 hq96
  refine Lb Y O el218 O O O O fun b97=>?_
  refine LN (rd:=rdXE) (f:=XE.cells) (m:=1) 0 [(x96,s96.1,s96.2)] O O (fun k hk=>by simp [glassL,blk] at hk; subst hk; simp [outOf,glassL,blk,osl]) XE.cells_len (fun _ _ _ _ h=>h) (show 1≤1 by decide) (by decide) fun H97 fH97 hH97=>?_
  refine V0 (Yf fo222_0 O) (Lst 1 Y O O O sz3 O O O (V0 (Yf fo222_3 O) (Lst 1 Y O O O sz218 O O O (Ln (Eb (Et (Cs (Cr (V0 (Ym O) ?_)))))))))
  refine Lb Y O el22 O O O O fun b101=>?_
  refine Lsv (T:=9) (m:=1) 0 [[59]] O O (show 1≤1 by decide) (by decide) fun H101 hH101=>?_
  refine Lf 0 O ?_
  refine Lwx (ι:=(Option Addr×Nat)×Tk) (κ:=(Option Addr×Nat)×Tk) [_] _ Y O en143 O O (fun _=>.tuple #[]) (fun i=>glassL gb i.1 i.2) (fun i=>mustT [[59]] q96=some i.2∧Sl rdTok 3 HT i.1.1 i.1.2 i.2) (fun _=>brk) (fun i=>glassL gb i.1 i.2) (fun _=>mustT [[59]] q96=none) ([HT,H101]) (by simp) (fun w hw=>(must_any gb HT r96 q96 H101 _ _ [[59]] w hH101 hm96 hw).mono fun e w' h=>by
      rcases h with ⟨r2,q,h1,h2,h3,h4⟩ | ⟨r2,q,h1,h2,h3⟩
      · exact .inl ⟨(r2,q),h1,⟨h2,h3⟩,h4⟩
      · exact .inr ⟨(r2,q),h1,h2,h3⟩) ?_ ?_
  ·
   intro ⟨rp,qp⟩ hp
   rw [must1] at hp
   refine Ep ?_
   refine Epp fun w' hw=>?_
   exact .inr ⟨rp,qp,O,by simp only [stmtP,simpleP,w_if,w_else,w_while,w_return,w_out,hn45,hn72,hn86,hq94,hq96,hp,Option.bind_some,Option.map_some,Option.bind_none,Option.map_none],(by have h:=hw; have h:=Wt 1 h; have h:=Ws.drops h (Vs':=[HT]) (by simp); exact h)⟩
  intro ⟨r102,q102⟩ ⟨hq102,hm102⟩
  have ok102:=tMust ok96 hq102
  rw [must1] at hq102
  refine Ln (Et (Cs (Cr (V0 (Yda 1 O O ag222 O) (Lst 2 Y O O O sz222 O O O (Ln (Et (Crt ?_))))))))
  refine WE.retR (rs_1 O (rv_agg 2 O O ag222 O)) fun w' hw=>?_
  exact .inl ⟨TStmt.mk 7 [] [] [x96] [] [],⟨(some ⟨b97,0,none⟩,1),((none,0):Option Addr×Nat),((none,0):Option Addr×Nat)⟩,r102,q102,O,by simp only [stmtP,simpleP,w_if,w_else,w_while,w_return,w_out,hn45,hn72,hn86,hq94,hq96,hq102,Option.bind_some,Option.map_some,Option.bind_none,Option.map_none],⟨(slE_of hH97 (nv_vs hw (by simp) fH97) (nv_vs hw (by simp) hf96) ((XEs.nil F96 6).snoc (VLe.refl _) (VLe.refl _) hx96)),Sl.nil,Sl.nil⟩,hm102,Wv 3 (Wt 1 hw)⟩
 obtain ⟨hn94,hl94⟩:=h94f hc5
 subst hl94
 refine Cs (Cr (V0 (Ym O) (Lf 0 O ?_)))
 refine Lwx (ι:=(Tx×Tx)×(Option Addr×Nat)×Tk) (κ:=(Option Addr×Nat)×Tk) [_] _ Y O en183 O O (fun i=>.tuple #[st i.1.1,st i.1.2]) (fun i=>glassL gb i.2.1 i.2.2) (fun i=>refP l=some (i.1,i.2.2)∧Sl rdTok 3 HT i.2.1.1 i.2.1.2 i.2.2) (fun _=>brk) (fun i=>glassL gb i.1 i.2) (fun _=>refP l=none) ([HT]) (by simp) (fun w hw=>(gref_any gb HT r94 l w hok hm94 hw).mono fun e w' h=>by
     rcases h with ⟨t,r2,q,h1,h2,h3,h4⟩ | ⟨r2,q,h1,h2,h3⟩
     · exact .inl ⟨(t,r2,q),h1,⟨h2,h3⟩,h4⟩
     · exact .inr ⟨(r2,q),h1,h2,h3⟩) ?_ ?_
 ·
  intro ⟨rp,qp⟩ hp
  refine Ep (WE.block_panic (Ep ?_))
  refine Epp fun w' hw=>?_
  exact .inr ⟨rp,qp,O,by simp only [stmtP,simpleP,w_if,w_else,w_while,w_return,w_out,hn45,hn72,hn86,hn94,hp,Option.bind_some,Option.map_some,Option.bind_none,Option.map_none],(by have h:=hw; have h:=Wt 1 h; exact h)⟩
 intro ⟨p9,r9,q9⟩ ⟨hq9,hm9⟩
 have ok9:=tRef hok hq9
 refine V0 (Ym O) (V0 (Yx O O) (V0 (Yx O O) (V0 (Yf fo222_1 O) (Lst 1 Y O O O sz9 O O O (V0 (Yf fo222_2 O) ?_)))))
 refine Lst 1 Y O O O sz9 O O O (Ln (Et (Cb (Cs (Cr (V0 (Ym O) (Lf 0 O ?_)))))))
 refine Lw (ι:=Bool×(Option Addr×Nat)×Tk) [_] _ Y O en145 O O (fun i=>.bool i.1) (fun i=>glassL gb i.2.1 i.2.2) (fun i=>(i.1=true→hasT [40] q9=some i.2.2)∧(i.1=false→hasT [40] q9=none∧q9=i.2.2)∧Sl rdTok 3 HT i.2.1.1 i.2.1.2 i.2.2) [HT] (by simp) (fun w hw=>has_any gb HT r9 q9 [40] w hm9 hw) ?_
 intro ⟨b24,r24,q24⟩ ⟨h24t,h24f,hm24⟩
 refine V0 (Ya O) (Ln (Et ?_))
 refine Cc O (fun hc6=>?_) (fun hc6=>?_)
 ·
  have hq24:=h24t hc6
  have ok24:=tHas ok9 hq24
  refine Cr (V0 (Ym O) (Lf 0 O ?_))
  refine Lwy (ι:=((List TExpr)×(Option Addr×Nat))×(Option Addr×Nat)×Tk) (κ:=(Option Addr×Nat)×Tk) [_] _ Y O en184 O O (fun i=>.slice i.1.2.1 i.1.1.length i.1.2.2) (fun i=>glassL gb i.2.1 i.2.2) (fun F i=>argsP (exprP 6) q24=some (i.1.1,i.2.2)∧Sl (RdE (6+1)) 5 F i.1.2.1 i.1.2.2 i.1.1∧Sl rdTok 3 HT i.2.1.1 i.2.1.2 i.2.2) (fun _=>brk) (fun i=>glassL gb i.1 i.2) (fun _=>argsP (exprP 6) q24=none) ([HT]) (by simp) (fun _ _ h=>h) (fun w hw=>(gargs_any gb HT r24 q24 6 (1) w (fun gb r l d w h1 h2 h3 h4=>gexpr_any HT 6 gb r l d w h1 h2 h3 h4) (by omega) ok24 hm24 hw).mono fun e w' h=>by
      rcases h with ⟨x,s,r2,q,h1,h2,h3,h4,h5⟩ | ⟨r2,q,h1,h2,h3⟩
      · exact .inl ⟨((x,s),r2,q),h1,⟨h2,h3,h4⟩,h5⟩
      · exact .inr ⟨(r2,q),h1,h2,h3⟩) ?_ ?_
  ·
   intro ⟨rp,qp⟩ hp
   refine WE.block_panic (WE.block_panic (Ep ?_))
   refine Epp fun w' hw=>?_
   exact .inr ⟨rp,qp,O,by simp only [stmtP,simpleP,w_if,w_else,w_while,w_return,w_out,hn45,hn72,hn86,hn94,hq9,hq24,hp,Option.bind_some,Option.map_some,Option.bind_none,Option.map_none],(by have h:=hw; have h:=Wt 1 h; exact h)⟩
  intro F26 ⟨⟨xs26,s26⟩,r26,q26⟩ hf26 ⟨hq26,hx26,hm26⟩
  have ok26:TOk q26:=tArgs ok24 hq26
  refine V0 (Yf fo222_0 O) (Lst 1 Y O O O sz3 O O O (V0 (Yf fo222_3 O) (Lst 1 Y O O O sz218 O O O (Ln (Eb (Eb (Et (Cs (Cr (V0 (Ym O) ?_))))))))))
  refine Lb Y O el22 O O O O fun b101=>?_
  refine Lsv (T:=9) (m:=1) 0 [[59]] O O (show 1≤1 by decide) (by decide) fun H101 hH101=>?_
  refine Lf 0 O ?_
  refine Lwx (ι:=(Option Addr×Nat)×Tk) (κ:=(Option Addr×Nat)×Tk) [_] _ Y O en143 O O (fun _=>.tuple #[]) (fun i=>glassL gb i.1 i.2) (fun i=>mustT [[59]] q26=some i.2∧Sl rdTok 3 HT i.1.1 i.1.2 i.2) (fun _=>brk) (fun i=>glassL gb i.1 i.2) (fun _=>mustT [[59]] q26=none) ([HT,H101]) (by simp) (fun w hw=>(must_any gb HT r26 q26 H101 _ _ [[59]] w hH101 hm26 hw).mono fun e w' h=>by
      rcases h with ⟨r2,q,h1,h2,h3,h4⟩ | ⟨r2,q,h1,h2,h3⟩
      · exact .inl ⟨(r2,q),h1,⟨h2,h3⟩,h4⟩
      · exact .inr ⟨(r2,q),h1,h2,h3⟩) ?_ ?_
  ·
   intro ⟨rp,qp⟩ hp
   rw [must1] at hp
   refine Ep ?_
   refine Epp fun w' hw=>?_
   exact .inr ⟨rp,qp,O,by simp only [stmtP,simpleP,w_if,w_else,w_while,w_return,w_out,hn45,hn72,hn86,hn94,hq9,hq24,hq26,hp,Option.bind_some,Option.map_some,Option.bind_none,Option.map_none],(by have h:=hw; have h:=Wt 1 h; have h:=Ws.drops h (Vs':=[HT]) (by simp); exact h)⟩
  intro ⟨r102,q102⟩ ⟨hq102,hm102⟩
  have ok102:=tMust ok26 hq102
  rw [must1] at hq102
  refine Ln (Et (Cs (Cr (V0 (Yda 1 O O ag222 O) (Lst 2 Y O O O sz222 O O O (Ln (Et (Crt ?_))))))))
  refine WE.retR (rs_1 O (rv_agg 2 O O ag222 O)) fun w' hw=>?_
  exact .inl ⟨TStmt.mk 3 p9.1 p9.2 xs26 [] [],⟨s26,((none,0):Option Addr×Nat),((none,0):Option Addr×Nat)⟩,r102,q102,O,by simp only [stmtP,simpleP,w_if,w_else,w_while,w_return,w_out,hn45,hn72,hn86,hn94,hq9,hq24,hq26,hq102,Option.bind_some,Option.map_some,Option.bind_none,Option.map_none],⟨(slE_mv hx26 (nv_vs hw (by simp) hf26)),Sl.nil,Sl.nil⟩,hm102,Wv 2 (Wt 1 hw)⟩
 obtain ⟨hn24,hl24⟩:=h24f hc6
 subst hl24
 refine Cs (Cr (V0 (Ym O) (Lf 0 O ?_)))
 refine Lw (ι:=Bool×(Option Addr×Nat)×Tk) [_] _ Y O en145 O O (fun i=>.bool i.1) (fun i=>glassL gb i.2.1 i.2.2) (fun i=>(i.1=true→hasT [91] q9=some i.2.2)∧(i.1=false→hasT [91] q9=none∧q9=i.2.2)∧Sl rdTok 3 HT i.2.1.1 i.2.1.2 i.2.2) [HT] (by simp) (fun w hw=>has_any gb HT r24 q9 [91] w hm24 hw) ?_
 intro ⟨b31,r31,q31⟩ ⟨h31t,h31f,hm31⟩
 refine V0 (Ya O) (Ln (Et ?_))
 refine Cc O (fun hc7=>?_) (fun hc7=>?_)
 ·
  have hq31:=h31t hc7
  have ok31:=tHas ok9 hq31
  refine Cs (Cr (V0 (Ym O) (Lf 0 O ?_)))
  refine Lwy (ι:=(TExpr×(Option Addr×Nat))×(Option Addr×Nat)×Tk) (κ:=(Option Addr×Nat)×Tk) [_] _ Y O en182 O O (fun i=>.agg #[.int .i64 (i.1.1).op,.int .i64 (i.1.1).n,st (i.1.1).mod,st (i.1.1).nm,.slice i.1.2.1 (i.1.1).args.length i.1.2.2]) (fun i=>glassL gb i.2.1 i.2.2) (fun F i=>exprP 6 q31=some (i.1.1,i.2.2)∧Sl (RdE 6) 5 F i.1.2.1 i.1.2.2 i.1.1.args∧Sl rdTok 3 HT i.2.1.1 i.2.1.2 i.2.2) (fun _=>brk) (fun i=>glassL gb i.1 i.2) (fun _=>exprP 6 q31=none) ([HT]) (by simp) (fun _ _ h=>h) (fun w hw=>((fun gb r l d w h1 h2 h3 h4=>gexpr_any HT 6 gb r l d w h1 h2 h3 h4) gb r31 q31 1 w O ok31 hm31 hw).mono fun e w' h=>by
      rcases h with ⟨x,s,r2,q,h1,h2,h3,h4,h5⟩ | ⟨r2,q,h1,h2,h3⟩
      · exact .inl ⟨((x,s),r2,q),h1,⟨h2,h3,h4⟩,h5⟩
      · exact .inr ⟨(r2,q),h1,h2,h3⟩) ?_ ?_
  ·
   intro ⟨rp,qp⟩ hp
   refine Ep (WE.block_panic (WE.block_panic (Ep ?_)))
   refine Epp fun w' hw=>?_
   exact .inr ⟨rp,qp,O,by simp only [stmtP,simpleP,w_if,w_else,w_while,w_return,w_out,hn45,hn72,hn86,hn94,hq9,hn24,hq31,hp,Option.bind_some,Option.map_some,Option.bind_none,Option.map_none],(by have h:=hw; have h:=Wt 1 h; exact h)⟩
  intro F33 ⟨⟨x33,s33⟩,r33,q33⟩ hf33 ⟨hq33,hx33,hm33⟩
  have ok33:TOk q33:=tExpr ok31 hq33
  have le33:q33.length+1≤List.length (q31):=expr_len ok31 hq33
  refine Al Y O zr220 fun b6=>?_
  refine Lst 0 Y O O O sz220 O O O (Ln (Et (Cs (Cr (V0 (Ym O) ?_)))))
  refine Lb Y O el22 O O O O fun b35=>?_
  refine Lsv (T:=9) (m:=2) 0 [[93],[61]] O O (show 2≤2 by decide) (by decide) fun H35 hH35=>?_
  refine Lf 1 O ?_
  refine Lwx (ι:=(Option Addr×Nat)×Tk) (κ:=(Option Addr×Nat)×Tk) [_] _ Y O en143 O O (fun _=>.tuple #[]) (fun i=>glassL gb i.1 i.2) (fun i=>mustT [[93],[61]] q33=some i.2∧Sl rdTok 3 HT i.1.1 i.1.2 i.2) (fun _=>brk) (fun i=>glassL gb i.1 i.2) (fun _=>mustT [[93],[61]] q33=none) ([HT,H35]) (by simp) (fun w hw=>(must_any gb HT r33 q33 H35 _ _ [[93],[61]] w hH35 hm33 hw).mono fun e w' h=>by
      rcases h with ⟨r2,q,h1,h2,h3,h4⟩ | ⟨r2,q,h1,h2,h3⟩
      · exact .inl ⟨(r2,q),h1,⟨h2,h3⟩,h4⟩
      · exact .inr ⟨(r2,q),h1,h2,h3⟩) ?_ ?_
  ·
   intro ⟨rp,qp⟩ hp
   refine Ep (WE.block_panic (WE.block_panic (Ep ?_)))
   refine Epp fun w' hw=>?_
   rcases must2n hp with hp | ⟨q36m,hp1,hp⟩
   · exact .inr ⟨rp,qp,O,by simp only [stmtP,simpleP,w_if,w_else,w_while,w_return,w_out,hn45,hn72,hn86,hn94,hq9,hn24,hq31,hq33,hp,Option.bind_some,Option.map_some,Option.bind_none,Option.map_none],(by have h:=hw; have h:=Wt 1 h; have h:=Ws.drops h (Vs':=[HT]) (by simp); exact h)⟩
   · exact .inr ⟨rp,qp,O,by simp only [stmtP,simpleP,w_if,w_else,w_while,w_return,w_out,hn45,hn72,hn86,hn94,hq9,hn24,hq31,hq33,hp1,hp,Option.bind_some,Option.map_some,Option.bind_none,Option.map_none],(by have h:=hw; have h:=Wt 1 h; have h:=Ws.drops h (Vs':=[HT]) (by simp); exact h)⟩
  intro ⟨r36,q36⟩ ⟨hq36,hm36⟩
  have ok36:=tMust ok33 hq36
  refine Ln (Et ?_)
  refine CU (fun _=>true) [2,0] [7] (.q true 0 (.q false 1 (.q false 4 (.e 2 (.e 3 (.e 5 (.q false 6 .nil) .stop) (.e 5 (.e 3 (.q false 6 .nil) .stop) .stop)) .stop)))) mixed (by kernel_rfl) (fun _ _ _ d _ _ h=>by cases d<;>exact h) ?_
  refine U0 O (Wos [2,0]) (Yda 0 O O ag220 O) (U0 O (Wos [2,0]) (Ym O) (U0 O (Wos [2,0]) (Yf fo222_0 O) ?_))
  refine Ue O (Wos [2,0]) ?_ WU.stop
  refine Lf 0 O ?_
  refine Lwy (ι:=(TExpr×(Option Addr×Nat))×(Option Addr×Nat)×Tk) (κ:=(Option Addr×Nat)×Tk) [_] _ Y O en182 O O (fun i=>.agg #[.int .i64 (i.1.1).op,.int .i64 (i.1.1).n,st (i.1.1).mod,st (i.1.1).nm,.slice i.1.2.1 (i.1.1).args.length i.1.2.2]) (fun i=>glassL gb i.2.1 i.2.2) (fun F i=>exprP 6 q36=some (i.1.1,i.2.2)∧Sl (RdE 6) 5 F i.1.2.1 i.1.2.2 i.1.1.args∧Sl rdTok 3 HT i.2.1.1 i.2.1.2 i.2.2) (fun _=>brk) (fun i=>glassL gb i.1 i.2) (fun _=>exprP 6 q36=none) ([HT]) (by simp) (fun _ _ h=>h) (fun w hw=>((fun gb r l d w h1 h2 h3 h4=>gexpr_any HT 6 gb r l d w h1 h2 h3 h4) gb r36 q36 1 w O ok36 hm36 hw).mono fun e w' h=>by
      rcases h with ⟨x,s,r2,q,h1,h2,h3,h4,h5⟩ | ⟨r2,q,h1,h2,h3⟩
      · exact .inl ⟨((x,s),r2,q),h1,⟨h2,h3,h4⟩,h5⟩
      · exact .inr ⟨(r2,q),h1,h2,h3⟩) ?_ ?_
  ·
   intro ⟨rp,qp⟩ hp
   refine Ep (WE.block_panic (WE.block_panic (Ep ?_)))
   refine Epp fun w' hw=>?_
   obtain ⟨q36m,hq36a,hq36b⟩:=must2s hq36
   exact .inr ⟨rp,qp,O,by simp only [stmtP,simpleP,w_if,w_else,w_while,w_return,w_out,hn45,hn72,hn86,hn94,hq9,hn24,hq31,hq33,hq36a,hq36b,hp,Option.bind_some,Option.map_some,Option.bind_none,Option.map_none],(by have h:=hw; have h:=Wt 1 h; have h:=Ws.drops h (Vs':=[HT]) (by simp); exact h)⟩
  intro F39 ⟨⟨x39,s39⟩,r39,q39⟩ hf39 ⟨hq39,hx39,hm39⟩
  have ok39:TOk q39:=tExpr ok36 hq39
  have le39:q39.length+1≤List.length (q36):=expr_len ok36 hq39
  refine Ln (Eu ?_)
  refine Ue O (fun _ h=>(Wv 1 (Wo 0 (Wo 2 h)):)) ?_ ?_
  ·
   refine Lb Y O el218 O O O O fun b40=>?_
   refine LN (rd:=rdXE) (f:=XE.cells) (m:=2) 0 [(x33,s33.1,s33.2),(x39,s39.1,s39.2)] O O (fun k hk=>by simp [glassL,blk] at hk; subst hk; simp [outOf,glassL,blk,osl]) XE.cells_len (fun _ _ _ _ h=>h) (show 2≤2 by decide) (by decide) fun H40 fH40 hH40=>?_
   refine Ln (Eu ?_)
   refine Ue O (fun _ h=>(Wv 2 (Wo 0 (Wo 2 h)):)) ?_ WU.stop
   refine Lst 2 Y O O O sz3 O O O (Ln (Eu (U0 O (fun _ h=>(Wv 2 (Wo 0 (Wo 2 h)):)) (Yf fo222_3 O) ?_)))
   refine WU.nil (fun _ h=>(Wv 2 (Wo 0 (Wo 2 h)):)) ?_
   refine WS.e O ?_
   refine Lst 2 Y O O O sz218 O O O (Ln (Es ?_))
   refine WS.nil ?_
   refine Eb (Eb (Et (Cs (Cr (V0 (Ym O) ?_)))))
   refine Lb Y O el22 O O O O fun b101=>?_
   refine Lsv (T:=9) (m:=1) 0 [[59]] O O (show 1≤1 by decide) (by decide) fun H101 hH101=>?_
   refine Lf 0 O ?_
   refine Lwx (ι:=(Option Addr×Nat)×Tk) (κ:=(Option Addr×Nat)×Tk) [_] _ Y O en143 O O (fun _=>.tuple #[]) (fun i=>glassL gb i.1 i.2) (fun i=>mustT [[59]] q39=some i.2∧Sl rdTok 3 HT i.1.1 i.1.2 i.2) (fun _=>brk) (fun i=>glassL gb i.1 i.2) (fun _=>mustT [[59]] q39=none) ([HT,H101]) (by simp) (fun w hw=>(must_any gb HT r39 q39 H101 _ _ [[59]] w hH101 hm39 hw).mono fun e w' h=>by
       rcases h with ⟨r2,q,h1,h2,h3,h4⟩ | ⟨r2,q,h1,h2,h3⟩
       · exact .inl ⟨(r2,q),h1,⟨h2,h3⟩,h4⟩
       · exact .inr ⟨(r2,q),h1,h2,h3⟩) ?_ ?_
   ·
    intro ⟨rp,qp⟩ hp
    rw [must1] at hp
    refine Ep ?_
    refine Epp fun w' hw=>?_
    obtain ⟨q36m,hq36a,hq36b⟩:=must2s hq36
    exact .inr ⟨rp,qp,O,by simp only [stmtP,simpleP,w_if,w_else,w_while,w_return,w_out,hn45,hn72,hn86,hn94,hq9,hn24,hq31,hq33,hq36a,hq36b,hq39,hp,Option.bind_some,Option.map_some,Option.bind_none,Option.map_none],(by have h:=hw; have h:=Wt 1 h; have h:=Ws.drops h (Vs':=[HT]) (by simp); exact h)⟩
   intro ⟨r102,q102⟩ ⟨hq102,hm102⟩
   have ok102:=tMust ok39 hq102
   rw [must1] at hq102
   refine Ln (Et (Cs (Cr (V0 (Yda 2 O O ag222 O) (Lst 3 Y O O O sz222 O O O (Ln (Et (Crt ?_))))))))
   refine WE.retR (rs_1 O (rv_agg 3 O O ag222 O)) fun w' hw=>?_
   obtain ⟨q36m,hq36a,hq36b⟩:=must2s hq36
   exact .inl ⟨TStmt.mk 2 p9.1 p9.2 [x33,x39] [] [],⟨(some ⟨b40,0,none⟩,2),((none,0):Option Addr×Nat),((none,0):Option Addr×Nat)⟩,r102,q102,O,by simp only [stmtP,simpleP,w_if,w_else,w_while,w_return,w_out,hn45,hn72,hn86,hn94,hq9,hn24,hq31,hq33,hq36a,hq36b,hq39,hq102,Option.bind_some,Option.map_some,Option.bind_none,Option.map_none],⟨(slE_of hH40 (nv_vs hw (by simp) fH40) (VLe.refl _) (((XEs.nil (nv w w') 6).snoc (VLe.refl _) (nv_vs hw (by simp) hf33) hx33).snoc (VLe.refl _) (nv_vs hw (by simp) hf39) hx39)),Sl.nil,Sl.nil⟩,hm102,Wv 5 (Wt 1 hw)⟩
  refine Ue O (fun _ h=>(Wv 1 (Wo 0 (Wo 2 h)):)) ?_ WU.stop
  refine Lst 2 Y O O O sz3 O O O (Ln (Eu ?_))
  refine Ue O (fun _ h=>(Wv 1 (Wo 0 (Wo 2 h)):)) ?_ WU.stop
  refine Lb Y O el218 O O O O fun b40=>?_
  refine LN (rd:=rdXE) (f:=XE.cells) (m:=2) 0 [(x33,s33.1,s33.2),(x39,s39.1,s39.2)] O O (fun k hk=>by simp [glassL,blk] at hk; subst hk; simp [outOf,glassL,blk,osl]) XE.cells_len (fun _ _ _ _ h=>h) (show 2≤2 by decide) (by decide) fun H40 fH40 hH40=>?_
  refine Ln (Eu (U0 O (fun _ h=>(Wv 2 (Wo 0 (Wo 2 h)):)) (Yf fo222_3 O) ?_))
  refine WU.nil (fun _ h=>(Wv 2 (Wo 0 (Wo 2 h)):)) ?_
  refine WS.e O ?_
  refine Lst 2 Y O O O sz218 O O O (Ln (Es ?_))
  refine WS.nil ?_
  refine Eb (Eb (Et (Cs (Cr (V0 (Ym O) ?_)))))
  refine Lb Y O el22 O O O O fun b101=>?_
  refine Lsv (T:=9) (m:=1) 0 [[59]] O O (show 1≤1 by decide) (by decide) fun H101 hH101=>?_
  refine Lf 0 O ?_
  refine Lwx (ι:=(Option Addr×Nat)×Tk) (κ:=(Option Addr×Nat)×Tk) [_] _ Y O en143 O O (fun _=>.tuple #[]) (fun i=>glassL gb i.1 i.2) (fun i=>mustT [[59]] q39=some i.2∧Sl rdTok 3 HT i.1.1 i.1.2 i.2) (fun _=>brk) (fun i=>glassL gb i.1 i.2) (fun _=>mustT [[59]] q39=none) ([HT,H101]) (by simp) (fun w hw=>(must_any gb HT r39 q39 H101 _ _ [[59]] w hH101 hm39 hw).mono fun e w' h=>by
      rcases h with ⟨r2,q,h1,h2,h3,h4⟩ | ⟨r2,q,h1,h2,h3⟩
      · exact .inl ⟨(r2,q),h1,⟨h2,h3⟩,h4⟩
      · exact .inr ⟨(r2,q),h1,h2,h3⟩) ?_ ?_
  ·
   intro ⟨rp,qp⟩ hp
   rw [must1] at hp
   refine Ep ?_
   refine Epp fun w' hw=>?_
   obtain ⟨q36m,hq36a,hq36b⟩:=must2s hq36
   exact .inr ⟨rp,qp,O,by simp only [stmtP,simpleP,w_if,w_else,w_while,w_return,w_out,hn45,hn72,hn86,hn94,hq9,hn24,hq31,hq33,hq36a,hq36b,hq39,hp,Option.bind_some,Option.map_some,Option.bind_none,Option.map_none],(by have h:=hw; have h:=Wt 1 h; have h:=Ws.drops h (Vs':=[HT]) (by simp); exact h)⟩
  intro ⟨r102,q102⟩ ⟨hq102,hm102⟩
  have ok102:=tMust ok39 hq102
  rw [must1] at hq102
  refine Ln (Et (Cs (Cr (V0 (Yda 2 O O ag222 O) (Lst 3 Y O O O sz222 O O O (Ln (Et (Crt ?_))))))))
  refine WE.retR (rs_1 O (rv_agg 3 O O ag222 O)) fun w' hw=>?_
  obtain ⟨q36m,hq36a,hq36b⟩:=must2s hq36
  exact .inl ⟨TStmt.mk 2 p9.1 p9.2 [x33,x39] [] [],⟨(some ⟨b40,0,none⟩,2),((none,0):Option Addr×Nat),((none,0):Option Addr×Nat)⟩,r102,q102,O,by simp only [stmtP,simpleP,w_if,w_else,w_while,w_return,w_out,hn45,hn72,hn86,hn94,hq9,hn24,hq31,hq33,hq36a,hq36b,hq39,hq102,Option.bind_some,Option.map_some,Option.bind_none,Option.map_none],⟨(slE_of hH40 (nv_vs hw (by simp) fH40) (VLe.refl _) (((XEs.nil (nv w w') 6).snoc (VLe.refl _) (nv_vs hw (by simp) hf33) hx33).snoc (VLe.refl _) (nv_vs hw (by simp) hf39) hx39)),Sl.nil,Sl.nil⟩,hm102,Wv 5 (Wt 1 hw)⟩
 obtain ⟨hn31,hl31⟩:=h31f hc7
 subst hl31
 refine Cs (Cr (V0 (Ym O) ?_))
 refine Lb Y O el22 O O O O fun b15=>?_
 refine Lsv (T:=9) (m:=1) 0 [[61]] O O (show 1≤1 by decide) (by decide) fun H15 hH15=>?_
 refine Lf 0 O ?_
 refine Lwx (ι:=(Option Addr×Nat)×Tk) (κ:=(Option Addr×Nat)×Tk) [_] _ Y O en143 O O (fun _=>.tuple #[]) (fun i=>glassL gb i.1 i.2) (fun i=>mustT [[61]] q9=some i.2∧Sl rdTok 3 HT i.1.1 i.1.2 i.2) (fun _=>brk) (fun i=>glassL gb i.1 i.2) (fun _=>mustT [[61]] q9=none) ([HT,H15]) (by simp) (fun w hw=>(must_any gb HT r31 q9 H15 _ _ [[61]] w hH15 hm31 hw).mono fun e w' h=>by
     rcases h with ⟨r2,q,h1,h2,h3,h4⟩ | ⟨r2,q,h1,h2,h3⟩
     · exact .inl ⟨(r2,q),h1,⟨h2,h3⟩,h4⟩
     · exact .inr ⟨(r2,q),h1,h2,h3⟩) ?_ ?_
 ·
  intro ⟨rp,qp⟩ hp
  rw [must1] at hp
  refine Ep (WE.block_panic (WE.block_panic (Ep ?_)))
  refine Epp fun w' hw=>?_
  exact .inr ⟨rp,qp,O,by simp only [stmtP,simpleP,w_if,w_else,w_while,w_return,w_out,hn45,hn72,hn86,hn94,hq9,hn24,hn31,hp,Option.bind_some,Option.map_some,Option.bind_none,Option.map_none],(by have h:=hw; have h:=Wt 1 h; have h:=Ws.drops h (Vs':=[HT]) (by simp); exact h)⟩
 intro ⟨r16,q16⟩ ⟨hq16,hm16⟩
 have ok16:=tMust ok9 hq16
 rw [must1] at hq16
 refine Ln (Et (Cr (V0 (Ym O) (Lf 0 O ?_))))
 refine Lwy (ι:=(TExpr×(Option Addr×Nat))×(Option Addr×Nat)×Tk) (κ:=(Option Addr×Nat)×Tk) [_] _ Y O en182 O O (fun i=>.agg #[.int .i64 (i.1.1).op,.int .i64 (i.1.1).n,st (i.1.1).mod,st (i.1.1).nm,.slice i.1.2.1 (i.1.1).args.length i.1.2.2]) (fun i=>glassL gb i.2.1 i.2.2) (fun F i=>exprP 6 q16=some (i.1.1,i.2.2)∧Sl (RdE 6) 5 F i.1.2.1 i.1.2.2 i.1.1.args∧Sl rdTok 3 HT i.2.1.1 i.2.1.2 i.2.2) (fun _=>brk) (fun i=>glassL gb i.1 i.2) (fun _=>exprP 6 q16=none) ([HT]) (by simp) (fun _ _ h=>h) (fun w hw=>((fun gb r l d w h1 h2 h3 h4=>gexpr_any HT 6 gb r l d w h1 h2 h3 h4) gb r16 q16 1 w O ok16 hm16 hw).mono fun e w' h=>by
     rcases h with ⟨x,s,r2,q,h1,h2,h3,h4,h5⟩ | ⟨r2,q,h1,h2,h3⟩
     · exact .inl ⟨((x,s),r2,q),h1,⟨h2,h3,h4⟩,h5⟩
     · exact .inr ⟨(r2,q),h1,h2,h3⟩) ?_ ?_
 ·
  intro ⟨rp,qp⟩ hp
  refine WE.block_panic (WE.block_panic (Ep ?_))
  refine Epp fun w' hw=>?_
  exact .inr ⟨rp,qp,O,by simp only [stmtP,simpleP,w_if,w_else,w_while,w_return,w_out,hn45,hn72,hn86,hn94,hq9,hn24,hn31,hq16,hp,Option.bind_some,Option.map_some,Option.bind_none,Option.map_none],(by have h:=hw; have h:=Wt 1 h; have h:=Ws.drops h (Vs':=[HT]) (by simp); exact h)⟩
 intro F18 ⟨⟨x18,s18⟩,r18,q18⟩ hf18 ⟨hq18,hx18,hm18⟩
 have ok18:TOk q18:=tExpr ok16 hq18
 have le18:q18.length+1≤List.length (q16):=expr_len ok16 hq18
 refine Lb Y O el218 O O O O fun b19=>?_
 refine LN (rd:=rdXE) (f:=XE.cells) (m:=1) 0 [(x18,s18.1,s18.2)] O O (fun k hk=>by simp [glassL,blk] at hk; subst hk; simp [outOf,glassL,blk,osl]) XE.cells_len (fun _ _ _ _ h=>h) (show 1≤1 by decide) (by decide) fun H19 fH19 hH19=>?_
 refine V0 (Yf fo222_0 O) (Lst 1 Y O O O sz3 O O O (V0 (Yf fo222_3 O) (Lst 1 Y O O O sz218 O O O (Ln (Eb (Eb (Et (Cs (Cr (V0 (Ym O) ?_))))))))))
 refine Lb Y O el22 O O O O fun b101=>?_
 refine Lsv (T:=9) (m:=1) 0 [[59]] O O (show 1≤1 by decide) (by decide) fun H101 hH101=>?_
 refine Lf 0 O ?_
 refine Lwx (ι:=(Option Addr×Nat)×Tk) (κ:=(Option Addr×Nat)×Tk) [_] _ Y O en143 O O (fun _=>.tuple #[]) (fun i=>glassL gb i.1 i.2) (fun i=>mustT [[59]] q18=some i.2∧Sl rdTok 3 HT i.1.1 i.1.2 i.2) (fun _=>brk) (fun i=>glassL gb i.1 i.2) (fun _=>mustT [[59]] q18=none) ([HT,H101]) (by simp) (fun w hw=>(must_any gb HT r18 q18 H101 _ _ [[59]] w hH101 hm18 hw).mono fun e w' h=>by
     rcases h with ⟨r2,q,h1,h2,h3,h4⟩ | ⟨r2,q,h1,h2,h3⟩
     · exact .inl ⟨(r2,q),h1,⟨h2,h3⟩,h4⟩
     · exact .inr ⟨(r2,q),h1,h2,h3⟩) ?_ ?_
 ·
  intro ⟨rp,qp⟩ hp
  rw [must1] at hp
  refine Ep ?_
  refine Epp fun w' hw=>?_
  exact .inr ⟨rp,qp,O,by simp only [stmtP,simpleP,w_if,w_else,w_while,w_return,w_out,hn45,hn72,hn86,hn94,hq9,hn24,hn31,hq16,hq18,hp,Option.bind_some,Option.map_some,Option.bind_none,Option.map_none],(by have h:=hw; have h:=Wt 1 h; have h:=Ws.drops h (Vs':=[HT]) (by simp); exact h)⟩
 intro ⟨r102,q102⟩ ⟨hq102,hm102⟩
 have ok102:=tMust ok18 hq102
 rw [must1] at hq102
 refine Ln (Et (Cs (Cr (V0 (Yda 1 O O ag222 O) (Lst 2 Y O O O sz222 O O O (Ln (Et (Crt ?_))))))))
 refine WE.retR (rs_1 O (rv_agg 2 O O ag222 O)) fun w' hw=>?_
 exact .inl ⟨TStmt.mk 1 p9.1 p9.2 [x18] [] [],⟨(some ⟨b19,0,none⟩,1),((none,0):Option Addr×Nat),((none,0):Option Addr×Nat)⟩,r102,q102,O,by simp only [stmtP,simpleP,w_if,w_else,w_while,w_return,w_out,hn45,hn72,hn86,hn94,hq9,hn24,hn31,hq16,hq18,hq102,Option.bind_some,Option.map_some,Option.bind_none,Option.map_none],⟨(slE_of hH19 (nv_vs hw (by simp) fH19) (nv_vs hw (by simp) hf18) ((XEs.nil F18 6).snoc (VLe.refl _) (VLe.refl _) hx18)),Sl.nil,Sl.nil⟩,hm102,Wv 4 (Wt 1 hw)⟩
theorem gblock_any (HT:View) (f:Nat) (gb:Nat) (r:Option Addr×Nat) (l:Tk) (d:Nat) (w:World) (hfd:f+d=7) (hok:TOk l) (hm:Sl rdTok 3 HT r.1 r.2 l) (hw:Ws w (List.flatMap Asr.ids (glassL gb r l)) (glassL gb r l) [HT] w) :
   Calls Tryz.prog 148 #[.pointer (some ⟨gb,0,none⟩),.int .i64 (d:Int)] w fun e w'=>(∃(x:List TStmt) (s:Option Addr×Nat) (r2:Option Addr×Nat) (q:Tk),e = .returned (.slice s.1 x.length s.2)∧blockP f l=some (x,q)∧Sl (RdS 7 f) 6 (nv w w') s.1 s.2 x∧Sl rdTok 3 HT r2.1 r2.2 q∧Ws w (List.flatMap Asr.ids (glassL gb r l)) (glassL gb r2 q) [HT] w')∨(∃(r2:Option Addr×Nat) (q:Tk),e = .panicked brk∧blockP f l=none∧Ws w (List.flatMap Asr.ids (glassL gb r l)) (glassL gb r2 q) [HT] w'):=by
 induction f using Nat.strongRecOn generalizing gb r l d w
 rename_i f ih
 refine enter Tryz.func148 O 23 O O ?_
 refine CE hw ?_
 refine Cs (Cr (V0 (Ya O) (Ln (Et (Cs (Cs (Cr (V0 (Ym O) (V0 (yl_gt O O) (Ln (Et ?_)))))))))))
 refine Cc O (fun hc0=>?_) (fun hc0=>?_)
 ·
  have hno:blockP f l=none:=by
    obtain rfl:f=0:=by simp at hc0; omega
    rfl
  refine Cr (V0 (Yb zr230 pl230 O O) (V0 (yl_mki co230 O) ?_))
  refine WL.panic Y O ?_
  refine Ep ?_
  refine Epp fun w' hw=>?_
  exact .inr ⟨r,l,O,hno,(by have h:=hw; exact h)⟩
 have hd6:¬6<d:=by simp at hc0; omega
 obtain ⟨f,rfl⟩:∃k,f=k+1:=⟨f-1,by omega⟩
 have hB:GlassB HT f:=fun gb r l d w h1 h2 h3 h4=>ih f (by omega) gb r l d w h1 h2 h3 h4
 refine Ck (Et (Cs (Cr (V0 (Ym O) ?_))))
 refine Lb Y O el22 O O O O fun b11=>?_
 refine Lsv (T:=9) (m:=1) 0 [[123]] O O (show 1≤1 by decide) (by decide) fun H11 hH11=>?_
 refine Lf 0 O ?_
 refine Lwx (ι:=(Option Addr×Nat)×Tk) (κ:=(Option Addr×Nat)×Tk) [_] _ Y O en143 O O (fun _=>.tuple #[]) (fun i=>glassL gb i.1 i.2) (fun i=>mustT [[123]] l=some i.2∧Sl rdTok 3 HT i.1.1 i.1.2 i.2) (fun _=>brk) (fun i=>glassL gb i.1 i.2) (fun _=>mustT [[123]] l=none) ([HT,H11]) (by simp) (fun w hw=>(must_any gb HT r l H11 _ _ [[123]] w hH11 hm hw).mono fun e w' h=>by
     rcases h with ⟨r2,q,h1,h2,h3,h4⟩ | ⟨r2,q,h1,h2,h3⟩
     · exact .inl ⟨(r2,q),h1,⟨h2,h3⟩,h4⟩
     · exact .inr ⟨(r2,q),h1,h2,h3⟩) ?_ ?_
 ·
  intro ⟨rp,qp⟩ hp
  rw [must1] at hp
  refine Ep ?_
  refine Epp fun w' hw=>?_
  exact .inr ⟨rp,qp,O,by rw [blockP,hp]; rfl,(by have h:=hw; have h:=Ws.drops h (Vs':=[HT]) (by simp); exact h)⟩
 intro ⟨r12,q12⟩ ⟨hq12,hm12⟩
 have ok12:=tMust hok hq12
 rw [must1] at hq12
 refine Ln (Et (Cs (Cr (V0 (Ya O) ?_))))
 refine LW (fun _ h=>h.osl_nil 222 6) ?_
 refine WL.v0 ?_
 refine Ln (Et (Cs (Cb ?_)))
 refine CLk (ι:=GS) (fun g=>[(5,.slice g.a g.es.length g.c)]) [(0,_),(1,_),(4,_)] (fun g=>Ws w (List.flatMap Asr.ids (glassL gb r l)) (glassL gb g.r g.q++[osT 222 6 SX.cells g.a g.c g.es]) [g.J,HT]) (fun g=>(g.es.length+g.q.length≤l.length∧TOk g.q)∧Sl rdTok 3 HT g.r.1 g.r.2 g.q∧(Fresh w g.J∧SXs g.J f g.es)∧∃n,g.q.length<n∧blockP (f+1) l=(stmtsL (stmtP (blockP f)) n g.q).map fun p=>(g.es.map (·.1)++p.1,p.2)) (fun g=>g.q.length) ⟨[],none,0,v0,r12,q12⟩ ⟨⟨by have:q12.length+1=l.length:=hasT_len hq12; simp; omega,ok12⟩,hm12,⟨v0_fresh w,SXs.nil _ _⟩,q12.length+1,by simp,by rw [blockP,hq12]; simp⟩ (sc O (sc O (sc O (sc O sn)))) (fun _ h=>by have h:=h.fronti 1 O; have h:=Ws.drops h (Vs':=[v0,HT]) (by simp); exact h) ?_
 intro g ⟨⟨hlen,hokg⟩,hmg,⟨hfJ,hXE⟩,hA⟩
 refine Cs (Cs (Cr (V0 (Ym O) (Lf 0 O ?_))))
 refine Lw (ι:=Bool×(Option Addr×Nat)×Tk) [_] _ Y O en145 O O (fun i=>.bool i.1) (fun i=>glassL gb i.2.1 i.2.2) (fun i=>(i.1=true→hasT [125] g.q=some i.2.2)∧(i.1=false→hasT [125] g.q=none∧g.q=i.2.2)∧Sl rdTok 3 HT i.2.1.1 i.2.1.2 i.2.2) [HT] (by simp) (fun w hw=>has_any gb HT g.r g.q [125] w hmg hw) ?_
 intro ⟨b14,r14,q14⟩ ⟨h14t,h14f,hm14⟩
 refine V0 (yl_not O) (Ln (Et ?_))
 refine Cc O (fun hc1=>?_) (fun hc1=>?_)
 ·
  obtain ⟨hn14,hl14⟩:=h14f (by simpa using hc1)
  subst hl14
  obtain ⟨n,hn,hA⟩:=hA
  obtain ⟨n,rfl⟩:∃k,n=k+1:=⟨n-1,by omega⟩
  refine Ck (Et (Cb (Cr (V0 (Ym O) (V0 (Ym O) (V0 (Ym O) (Lf 0 O ?_)))))))
  refine Lwy (ι:=(TStmt×SAt)×(Option Addr×Nat)×Tk) (κ:=(Option Addr×Nat)×Tk) [_] _ Y O en172 O O (fun i=>.agg #[.int .i64 (i.1.1).op,st (i.1.1).mod,st (i.1.1).nm,.slice (i.1.2).s1.1 (i.1.1).args.length (i.1.2).s1.2,.slice (i.1.2).s2.1 (i.1.1).body.length (i.1.2).s2.2,.slice (i.1.2).s3.1 (i.1.1).other.length (i.1.2).s3.2]) (fun i=>glassL gb i.2.1 i.2.2) (fun F i=>stmtP (blockP f) g.q=some (i.1.1,i.2.2)∧SlS f F i.1.1 i.1.2∧Sl rdTok 3 HT i.2.1.1 i.2.1.2 i.2.2) (fun _=>brk) (fun i=>glassL gb i.1 i.2) (fun _=>stmtP (blockP f) g.q=none) ([HT]) (by simp) (fun _ _ h=>h) (fun w hw=>(gstmt_any gb HT r14 g.q f d w hB (by omega) hokg hm14 hw).mono fun e w' h=>by
      rcases h with ⟨x,s,r2,q,h1,h2,h3,h4,h5⟩ | ⟨r2,q,h1,h2,h3⟩
      · exact .inl ⟨((x,s),r2,q),h1,⟨h2,h3,h4⟩,h5⟩
      · exact .inr ⟨(r2,q),h1,h2,h3⟩) ?_ ?_
  ·
   intro ⟨rp,qp⟩ hp
   refine WE.block_panic (Ep (WE.block_panic (Ep ?_)))
   refine Epp fun w' hw=>?_
   exact .inr ⟨rp,qp,O,by rw [hA,stmtsL_bad hn14 hp]; rfl,(by have h:=hw; have h:=Wt 1 h; have h:=Ws.drops h (Vs':=[HT]) (by simp); exact h)⟩
  intro F19 ⟨⟨x19,s19⟩,r19,q19⟩ hf19 ⟨hq19,hx19,hm19⟩
  have ok19:TOk q19:=tStmt hokg hq19
  have le19:q19.length<List.length (g.q):=stmtP_short (blockP_eats f) (hokg).all hq19
  refine WL.vjoin fun J19 j19a j19b j19f=>?_
  refine Lb Y O el172 O O O O fun b20=>?_
  refine Lrb 0 (.cells (SX.cells (x19,s19)).toArray 222 (0,0)) O O ?_
  refine LA ((x19,s19):SX) 2 0 Y O el172 O O O O O O (by have:=hok.len; omega) (by have:=hok.len; omega) fun a21 c21=>?_
  refine V0 (Ya O) (Ln (Eb ?_))
  exact Ea (⟨g.es++[(x19,s19)],a21,c21,J19,r19,q19⟩:GS) (by show q19.length<g.q.length; omega) ⟨⟨by simp; omega,ok19⟩,hm19,⟨j19f _ hf19 hfJ,SXs.snoc hXE j19b j19a hx19⟩,n,(show q19.length<n by omega),by rw [hA,stmtsL_more hn14 hq19]; simp [Function.comp_def]⟩ (sc O (sc O (sc O (sc O sn)))) (fun _ h=>by
      have h:=h.fronti 2 rfl
      have h:=h.fronti 2 rfl
      have h:=Wt 2 h
      have h:=Ws.drops h (Vs':=[J19,HT]) (by simp)
      exact h)
 have hq14:=h14t (by simpa using hc1)
 have ok14:=tHas hokg hq14
 obtain ⟨n,hn,hA⟩:=hA
 obtain ⟨n,rfl⟩:∃k,n=k+1:=⟨n-1,by omega⟩
 refine Ce (Ex (Ex (Ebh (Et (Cs ?_)))))
 refine WC.oslN (rd:=rdSX) 1 O (fun k hk=>by simp [glassL,blk] at hk; subst hk; simp [outOf,glassL,blk,osl]) SX.cells_len (fun _ _ _ _ h=>h) fun K7 fK7 hK7=>?_
 refine Cr (V0 (Ym O) (V0 (Ya O) (Ln (Et (Crt ?_)))))
 refine R1 O O fun w' hw=>?_
 exact .inl ⟨g.es.map (·.1),(g.a,g.c),r14,q14,by rw [List.length_map],by rw [hA,stmtsL_end hq14]; simp,slS_of hK7 (nv_vs hw (by simp) fK7) (nv_vs hw (by simp) hfJ) hXE,hm14,(Wv 2 hw)⟩
theorem tDecl {l r:Tk} {pub:Bool} {o:Option TDecl} (h:TOk l) (e:declP pub l=some (o,r)):TOk r:=by
 cases o with
 | none=>obtain rfl:=declP_none e; exact h
 | some d=>exact tEats h (declP_eats h.all e).1
theorem decl_len {l r:Tk} {pub:Bool} {d:TDecl} (h:TOk l) (e:declP pub l=some (some d,r)):r.length<l.length:=by
 have h1:=(declP_eats h.all e).1.2
 rw [h1]
 simp [pubD]
 omega
theorem tProc {l r:Tk} {pub:Bool} {p:TProc} (h:TOk l) (e:procP pub l=some (p,r)):TOk r:=tEats h (procP_eats h.all e).1
theorem proc_len {l r:Tk} {pub:Bool} {p:TProc} (h:TOk l) (e:procP pub l=some (p,r)):r.length<l.length:=by
 have h1:=(procP_eats h.all e).1.2
 rw [h1]
 simp [procB]
 omega
theorem nam_len {l r:Tk} {a:Tx} (h:TOk l) (e:namP l=some (a,r)):r.length<l.length:=by
 have h1:=(namP_eats h.all e).1.2
 rw [h1]
 simp
theorem pub_of {l q:Tk} {b:Bool} (ht:b=true→hasT [112,117,98] l=some q) (hf:b=false→hasT [112,117,98] l=none∧l=q):pubP l=(b,q):=by
 unfold pubP
 rw [show w_pub=[112,117,98] from rfl]
 cases b with
 | true=>rw [ht rfl]; rfl
 | false=>obtain ⟨h1,h2⟩:=hf rfl; rw [h1,h2]; rfl
theorem tPub {l q:Tk} {b:Bool} (h:TOk l) (ht:b=true→hasT [112,117,98] l=some q) (hf:b=false→hasT [112,117,98] l=none∧l=q):TOk q∧q.length≤l.length:=by
 cases b with
 | true=>exact ⟨tHas h (ht rfl),by have:=hasT_len (ht rfl); omega⟩
 | false=>obtain ⟨_,h2⟩:=hf rfl; subst h2; exact ⟨h,Nat.le_refl _⟩
theorem paramsL_end {n:Nat} {first:Bool} {l q:Tk} (h:hasT [41] l=some q):paramsL (n+1) first l=some ([],q):=by rw [paramsL,h]
theorem paramsL_1 {n:Nat} {l q:Tk} {a:Tx} (h:hasT [41] l=none) (h1:namP l=some (a,q)):paramsL (n+1) true l=(paramsL n false q).map fun p=>(a::p.1,p.2):=by rw [paramsL,h]; simp [h1]
theorem paramsL_1n {n:Nat} {l:Tk} (h:hasT [41] l=none) (h1:namP l=none):paramsL (n+1) true l=none:=by rw [paramsL,h]; simp [h1]
theorem paramsL_2 {n:Nat} {l l1 q:Tk} {a:Tx} (h:hasT [41] l=none) (h2:hasT [44] l=some l1) (h1:namP l1=some (a,q)):paramsL (n+1) false l=(paramsL n false q).map fun p=>(a::p.1,p.2):=by rw [paramsL,h]; simp [h1,h2]
theorem paramsL_2n {n:Nat} {l:Tk} (h:hasT [41] l=none) (h2:hasT [44] l=none):paramsL (n+1) false l=none:=by rw [paramsL,h]; simp [h2]
theorem paramsL_2m {n:Nat} {l l1:Tk} (h:hasT [41] l=none) (h2:hasT [44] l=some l1) (h1:namP l1=none):paramsL (n+1) false l=none:=by rw [paramsL,h]; simp [h1,h2]
def isNil (l:List Tx):Bool:=match l with | []=>true | _=>false
theorem isNil_snoc (l:List Tx) (x:Tx):isNil (l++[x])=false:=by cases l<;>rfl
theorem isNil_t {l:List Tx} (h:¬0<l.length):isNil l=true:=by cases l with | nil=>rfl | cons _ _=>exact absurd (by simp) h
theorem isNil_f {l:List Tx} (h:0<l.length):isNil l=false:=by cases l with | nil=>simp at h | cons _ _=>rfl
structure PAt where
 s1:Option Addr×Nat
 s2:Option Addr×Nat
 s3:Option Addr×Nat
abbrev PX:=TProc×PAt
def PX.cells (e:PX):List Value:=procV e.1 e.2.s1.1 e.2.s1.2 e.2.s2.1 e.2.s2.2 e.2.s3.1 e.2.s3.2
theorem PX.cells_len (e:PX):(PX.cells e).length=5:=rfl
def rdPX (H:View) (b o:Nat) (e:PX):Prop:=RdC H b o (PX.cells e)
structure SlP (N:View) (x:TProc) (p:PAt):Prop where
 params:Sl rdStr 1 N p.s1.1 p.s1.2 x.params
 locs:Sl rdStr 1 N p.s2.1 p.s2.2 x.locs
 body:Sl (RdS 7 6) 6 N p.s3.1 p.s3.2 x.body
theorem slStr_mv {H N:View} {c:Nat} {a:Option Addr} {l:List Tx} (h:Sl rdStr 1 H a c l) (hv:VLe H N):Sl rdStr 1 N a c l:=h.imp fun b o y hy=>rdStr_mono hv b o y hy
theorem slDecl_mv {H N:View} {c:Nat} {a:Option Addr} {l:List TDecl} (h:Sl rdDecl 4 H a c l) (hv:VLe H N):Sl rdDecl 4 N a c l:=h.imp fun b o y hy=>rdDecl_mono hv b o y hy
theorem SlP.mv {H N:View} {x:TProc} {p:PAt} (h:SlP H x p) (hv:VLe H N):SlP N x p:=⟨slStr_mv h.params hv,slStr_mv h.locs hv,slS_mv h.body hv⟩
def PXs (J:View) (es:List PX):Prop:=∀e ∈ es,SlP J e.1 e.2
theorem PXs.nil (J:View):PXs J []:=by intro e h; simp at h
theorem PXs.snoc {J J1 J2:View} {es:List PX} {e:PX} (h:PXs J es) (h1:VLe J J2) (h2:VLe J1 J2) (he:SlP J1 e.1 e.2):PXs J2 (es++[e]):=by
 intro x hx
 rcases List.mem_append.1 hx with hx | hx
 · exact (h x hx).mv h1
 · rw [List.mem_singleton] at hx
   subst hx
   exact he.mv h2
theorem slP_of {H J N:View} {c:Nat} {a:Option Addr} {es:List PX} (h:Sl rdPX 5 H a c es) (hv:VLe H N) (hJ:VLe J N) (hes:PXs J es):Sl (RdP 7 6) 5 N a c (es.map (·.1)):=by
 refine ⟨by simpa using h.cap,h.max,h.spot,fun i x hx=>?_⟩
 rw [List.getElem?_map] at hx
 obtain ⟨e,he,rfl⟩:=Option.map_eq_some_iff.1 hx
 obtain ⟨b,o,h1,h2⟩:=h.elt i e he
 have h3:=(hes e (List.mem_of_getElem? he)).mv hJ
 exact ⟨b,o,h1,e.2.s1.1,e.2.s1.2,e.2.s2.1,e.2.s2.2,e.2.s3.1,e.2.s3.2,RdC.mono hv h2,h3.params,h3.locs,h3.body⟩
structure GN where
 ps:List Tx
 a:Option Addr
 c:Nat
 r:Option Addr×Nat
 q:Tk
structure GD where
 ds:List TDecl
 a:Option Addr
 c:Nat
 pub:Bool
 r:Option Addr×Nat
 q:Tk
structure GM where
 ps:List PX
 a:Option Addr
 c:Nat
 J:View
 pub:Bool
 r:Option Addr×Nat
 q:Tk
theorem locsL_end {n:Nat} {l:Tk} (h:hasT [108,111,99,97,108] l=none):locsL (n+1) l=some ([],l):=by rw [locsL,show w_local=[108,111,99,97,108] from rfl,h]
theorem locsL_more {n:Nat} {l l1 q q2:Tk} {a:Tx} (h:hasT [108,111,99,97,108] l=some l1) (h1:namP l1=some (a,q)) (h2:hasT [59] q=some q2):locsL (n+1) l=(locsL n q2).map fun p=>(a::p.1,p.2):=by rw [locsL,show w_local=[108,111,99,97,108] from rfl,h]; simp [h1,h2]
theorem locsL_b1 {n:Nat} {l l1:Tk} (h:hasT [108,111,99,97,108] l=some l1) (h1:namP l1=none):locsL (n+1) l=none:=by rw [locsL,show w_local=[108,111,99,97,108] from rfl,h]; simp [h1]
theorem locsL_b2 {n:Nat} {l l1 q:Tk} {a:Tx} (h:hasT [108,111,99,97,108] l=some l1) (h1:namP l1=some (a,q)) (h2:hasT [59] q=none):locsL (n+1) l=none:=by rw [locsL,show w_local=[108,111,99,97,108] from rfl,h]; simp [h1,h2]
theorem usesL_end {n:Nat} {l:Tk} (h:hasT [117,115,101] l=none):usesL (n+1) l=some ([],l):=by rw [usesL,show w_use=[117,115,101] from rfl,h]
theorem usesL_more {n:Nat} {l l1 q q2:Tk} {a:Tx} (h:hasT [117,115,101] l=some l1) (h1:namP l1=some (a,q)) (h2:hasT [59] q=some q2):usesL (n+1) l=(usesL n q2).map fun p=>(a::p.1,p.2):=by rw [usesL,show w_use=[117,115,101] from rfl,h]; simp [h1,h2]
theorem usesL_b1 {n:Nat} {l l1:Tk} (h:hasT [117,115,101] l=some l1) (h1:namP l1=none):usesL (n+1) l=none:=by rw [usesL,show w_use=[117,115,101] from rfl,h]; simp [h1]
theorem usesL_b2 {n:Nat} {l l1 q:Tk} {a:Tx} (h:hasT [117,115,101] l=some l1) (h1:namP l1=some (a,q)) (h2:hasT [59] q=none):usesL (n+1) l=none:=by rw [usesL,show w_use=[117,115,101] from rfl,h]; simp [h1,h2]
theorem declsL_end {n:Nat} {pub:Bool} {l q:Tk} (h:declP pub l=some (none,q)):declsL (n+1) pub l=some (([],pub),q):=by rw [declsL,h]; rfl
theorem declsL_more {n:Nat} {pub b:Bool} {l q q2:Tk} {d:TDecl} (h:declP pub l=some (some d,q)) (h2:pubP q=(b,q2)):declsL (n+1) pub l=(declsL n b q2).map fun p=>((d::p.1.1,p.1.2),p.2):=by rw [declsL,h]; simp only [Option.bind_some]; rw [h2]
theorem declsL_bad {n:Nat} {pub:Bool} {l:Tk} (h:declP pub l=none):declsL (n+1) pub l=none:=by rw [declsL,h]; rfl
theorem procsL_end {n:Nat} {pub:Bool} {l:Tk} (h:hasT [112,114,111,99] l=none):procsL (n+1) pub l=some (([],pub),l):=by rw [procsL,show w_proc=[112,114,111,99] from rfl,h]
theorem procsL_more {n:Nat} {pub b:Bool} {l l1 q q2:Tk} {d:TProc} (h0:hasT [112,114,111,99] l=some l1) (h:procP pub l1=some (d,q)) (h2:pubP q=(b,q2)):procsL (n+1) pub l=(procsL n b q2).map fun p=>((d::p.1.1,p.1.2),p.2):=by rw [procsL,show w_proc=[112,114,111,99] from rfl,h0]; simp only; rw [h]; simp only [Option.bind_some]; rw [h2]
theorem procsL_bad {n:Nat} {pub:Bool} {l l1:Tk} (h0:hasT [112,114,111,99] l=some l1) (h:procP pub l1=none):procsL (n+1) pub l=none:=by rw [procsL,show w_proc=[112,114,111,99] from rfl,h0]; simp only; rw [h]; rfl
theorem pl217:placesP Tryz.prog 217=some [(0,1),(1,1),(2,1),(3,1)]:=by kernel_rfl
theorem gdecl_any (gb:Nat) (HT:View) (r:Option Addr×Nat) (l:Tk) (pub:Bool) (w:World) (hok:TOk l) (hm:Sl rdTok 3 HT r.1 r.2 l) (hw:Ws w (List.flatMap Asr.ids (glassL gb r l)) (glassL gb r l) [HT] w) :
   Calls Tryz.prog 146 #[.pointer (some ⟨gb,0,none⟩),.bool pub] w fun e w'=>(∃(o:Option TDecl) (r2:Option Addr×Nat) (q:Tk),e = .returned (.tuple #[.agg #[.int .i64 ((o).getD (⟨0,[],pub,0⟩:TDecl)).kind,st ((o).getD (⟨0,[],pub,0⟩:TDecl)).nm,.bool ((o).getD (⟨0,[],pub,0⟩:TDecl)).pub,.int .i64 ((o).getD (⟨0,[],pub,0⟩:TDecl)).n],.bool (o).isSome])∧declP pub l=some (o,q)∧Sl rdTok 3 HT r2.1 r2.2 q∧Ws w (List.flatMap Asr.ids (glassL gb r l)) (glassL gb r2 q) [HT] w')∨(∃(r2:Option Addr×Nat) (q:Tk),e = .panicked brk∧declP pub l=none∧Ws w (List.flatMap Asr.ids (glassL gb r l)) (glassL gb r2 q) [HT] w'):=by
 refine enter Tryz.func146 O 50 O O ?_
 refine CE hw ?_
 refine Cs (Cr ?_)
 refine Al Y O zr217 fun b4=>?_
 refine V0 (Ya O) (Ln (Et (Cs (Cr (V0 (Ym O) (V0 (Yb zr217 pl217 O O) ?_))))))
 refine Al Y O zr217 fun b6=>?_
 refine Lst 0 Y O O O sz217 O O O (Ln (Et (Cs (Cb (Cs (Cr (V0 (Ym O) (Lf 2 O ?_))))))))
 refine Lw (ι:=Bool×(Option Addr×Nat)×Tk) [_] _ Y O en145 O O (fun i=>.bool i.1) (fun i=>glassL gb i.2.1 i.2.2) (fun i=>(i.1=true→hasT [99,111,110,115,116] l=some i.2.2)∧(i.1=false→hasT [99,111,110,115,116] l=none∧l=i.2.2)∧Sl rdTok 3 HT i.2.1.1 i.2.1.2 i.2.2) [HT] (by simp) (fun w hw=>has_any gb HT r l [99,111,110,115,116] w hm hw) ?_
 intro ⟨b12,r12,q12⟩ ⟨h12t,h12f,hm12⟩
 refine V0 (Ya O) (Ln (Et ?_))
 refine Cc O (fun hc0=>?_) (fun hc0=>?_)
 ·
  have hq12:=h12t hc0
  have ok12:=tHas hok hq12
  refine Cs (Cr (V0 (Ym O) (Lf 0 O ?_)))
  refine Lwx (ι:=(Tx)×(Option Addr×Nat)×Tk) (κ:=(Option Addr×Nat)×Tk) [_] _ Y O en144 O O (fun i=>st i.1) (fun i=>glassL gb i.2.1 i.2.2) (fun i=>namP q12=some (i.1,i.2.2)∧Sl rdTok 3 HT i.2.1.1 i.2.1.2 i.2.2) (fun _=>brk) (fun i=>glassL gb i.1 i.2) (fun _=>namP q12=none) ([HT]) (by simp) (fun w hw=>(gname_any gb HT r12 q12 w hm12 hw).mono fun e w' h=>by
      rcases h with ⟨t,r2,q,h1,h2,h3,h4⟩ | ⟨r2,q,h1,h2,h3⟩
      · exact .inl ⟨(t,r2,q),h1,⟨h2,h3⟩,h4⟩
      · exact .inr ⟨(r2,q),h1,h2,h3⟩) ?_ ?_
  ·
   intro ⟨rp,qp⟩ hp
   refine Ep (WE.block_panic (Ep ?_))
   refine Epp fun w' hw=>?_
   exact .inr ⟨rp,qp,O,by simp only [declP,w_const,w_var,w_array,hq12,hp,Option.bind_some,Option.map_some,Option.bind_none,Option.map_none],(by have h:=hw; have h:=Wt 1 h; exact h)⟩
  intro ⟨s14,r14,q14⟩ ⟨hq14,hm14⟩
  have ok14:=tNam ok12 hq14
  refine V0 (Yf fo217_0 O) (Lst 1 Y O O O sz3 O O O (V0 (Yf fo217_1 O) (Lst 1 Y O O O sz9 O O O (Ln (Et (Cs (Cr (V0 (Ym O) ?_))))))))
  refine Lb Y O el22 O O O O fun b18=>?_
  refine Lsv (T:=9) (m:=1) 0 [[61]] O O (show 1≤1 by decide) (by decide) fun H18 hH18=>?_
  refine Lf 0 O ?_
  refine Lwx (ι:=(Option Addr×Nat)×Tk) (κ:=(Option Addr×Nat)×Tk) [_] _ Y O en143 O O (fun _=>.tuple #[]) (fun i=>glassL gb i.1 i.2) (fun i=>mustT [[61]] q14=some i.2∧Sl rdTok 3 HT i.1.1 i.1.2 i.2) (fun _=>brk) (fun i=>glassL gb i.1 i.2) (fun _=>mustT [[61]] q14=none) ([HT,H18]) (by simp) (fun w hw=>(must_any gb HT r14 q14 H18 _ _ [[61]] w hH18 hm14 hw).mono fun e w' h=>by
      rcases h with ⟨r2,q,h1,h2,h3,h4⟩ | ⟨r2,q,h1,h2,h3⟩
      · exact .inl ⟨(r2,q),h1,⟨h2,h3⟩,h4⟩
      · exact .inr ⟨(r2,q),h1,h2,h3⟩) ?_ ?_
  ·
   intro ⟨rp,qp⟩ hp
   rw [must1] at hp
   refine Ep (WE.block_panic (Ep ?_))
   refine Epp fun w' hw=>?_
   exact .inr ⟨rp,qp,O,by simp only [declP,w_const,w_var,w_array,hq12,hq14,hp,Option.bind_some,Option.map_some,Option.bind_none,Option.map_none],(by have h:=hw; have h:=Wt 1 h; have h:=Ws.drops h (Vs':=[HT]) (by simp); exact h)⟩
  intro ⟨r19,q19⟩ ⟨hq19,hm19⟩
  have ok19:=tMust ok14 hq19
  rw [must1] at hq19
  refine Ln (Et (Cr (V0 (Ym O) (Lf 0 O ?_))))
  refine Lwx (ι:=(Int)×(Option Addr×Nat)×Tk) (κ:=(Option Addr×Nat)×Tk) [_] _ Y O en171 O O (fun i=>.int .i64 i.1) (fun i=>glassL gb i.2.1 i.2.2) (fun i=>numP q19=some (i.1,i.2.2)∧Sl rdTok 3 HT i.2.1.1 i.2.1.2 i.2.2) (fun _=>brk) (fun i=>glassL gb i.1 i.2) (fun _=>numP q19=none) ([HT]) (by simp) (fun w hw=>(gnum_any gb HT r19 q19 w hm19 hw).mono fun e w' h=>by
      rcases h with ⟨t,r2,q,h1,h2,h3,h4⟩ | ⟨r2,q,h1,h2,h3⟩
      · exact .inl ⟨(t,r2,q),h1,⟨h2,h3⟩,h4⟩
      · exact .inr ⟨(r2,q),h1,h2,h3⟩) ?_ ?_
  ·
   intro ⟨rp,qp⟩ hp
   refine WE.block_panic (Ep ?_)
   refine Epp fun w' hw=>?_
   exact .inr ⟨rp,qp,O,by simp only [declP,w_const,w_var,w_array,hq12,hq14,hq19,hp,Option.bind_some,Option.map_some,Option.bind_none,Option.map_none],(by have h:=hw; have h:=Wt 1 h; have h:=Ws.drops h (Vs':=[HT]) (by simp); exact h)⟩
  intro ⟨n21,r21,q21⟩ ⟨hq21,hm21⟩
  have ok21:=tNum ok19 hq21
  refine V0 (Yf fo217_3 O) (Lst 1 Y O O O sz3 O O O (Ln (Eb (Et (Cs (Cr (V0 (Ym O) ?_)))))))
  refine Lb Y O el22 O O O O fun b47=>?_
  refine Lsv (T:=9) (m:=1) 0 [[59]] O O (show 1≤1 by decide) (by decide) fun H47 hH47=>?_
  refine Lf 0 O ?_
  refine Lwx (ι:=(Option Addr×Nat)×Tk) (κ:=(Option Addr×Nat)×Tk) [_] _ Y O en143 O O (fun _=>.tuple #[]) (fun i=>glassL gb i.1 i.2) (fun i=>mustT [[59]] q21=some i.2∧Sl rdTok 3 HT i.1.1 i.1.2 i.2) (fun _=>brk) (fun i=>glassL gb i.1 i.2) (fun _=>mustT [[59]] q21=none) ([HT,H47]) (by simp) (fun w hw=>(must_any gb HT r21 q21 H47 _ _ [[59]] w hH47 hm21 hw).mono fun e w' h=>by
      rcases h with ⟨r2,q,h1,h2,h3,h4⟩ | ⟨r2,q,h1,h2,h3⟩
      · exact .inl ⟨(r2,q),h1,⟨h2,h3⟩,h4⟩
      · exact .inr ⟨(r2,q),h1,h2,h3⟩) ?_ ?_
  ·
   intro ⟨rp,qp⟩ hp
   rw [must1] at hp
   refine Ep ?_
   refine Epp fun w' hw=>?_
   exact .inr ⟨rp,qp,O,by simp only [declP,w_const,w_var,w_array,hq12,hq14,hq19,hq21,hp,Option.bind_some,Option.map_some,Option.bind_none,Option.map_none],(by have h:=hw; have h:=Wt 1 h; have h:=Ws.drops h (Vs':=[HT]) (by simp); exact h)⟩
  intro ⟨r48,q48⟩ ⟨hq48,hm48⟩
  have ok48:=tMust ok21 hq48
  rw [must1] at hq48
  refine Ln (Et (Cs (Cr (V0 (Yda 1 O O ag217 O) (Lst 2 Y O O O sz217 O O O (V0 (Ya O) (Ln (Et (Crt ?_)))))))))
  refine WE.retR (rs_2 O (rv_agg 2 O O ag217 O) (rv_tmp O)) fun w' hw=>?_
  exact .inl ⟨some ⟨1,s14,pub,n21⟩,r48,q48,O,by simp only [declP,w_const,w_var,w_array,hq12,hq14,hq19,hq21,hq48,Option.bind_some,Option.map_some,Option.bind_none,Option.map_none],hm48,Wv 2 (Wt 1 hw)⟩
 obtain ⟨hn12,hl12⟩:=h12f hc0
 subst hl12
 refine Cs (Cr (V0 (Ym O) (Lf 0 O ?_)))
 refine Lw (ι:=Bool×(Option Addr×Nat)×Tk) [_] _ Y O en145 O O (fun i=>.bool i.1) (fun i=>glassL gb i.2.1 i.2.2) (fun i=>(i.1=true→hasT [118,97,114] l=some i.2.2)∧(i.1=false→hasT [118,97,114] l=none∧l=i.2.2)∧Sl rdTok 3 HT i.2.1.1 i.2.1.2 i.2.2) [HT] (by simp) (fun w hw=>has_any gb HT r12 l [118,97,114] w hm12 hw) ?_
 intro ⟨b25,r25,q25⟩ ⟨h25t,h25f,hm25⟩
 refine V0 (Ya O) (Ln (Et ?_))
 refine Cc O (fun hc1=>?_) (fun hc1=>?_)
 ·
  have hq25:=h25t hc1
  have ok25:=tHas hok hq25
  refine Cr (V0 (Ym O) (Lf 0 O ?_))
  refine Lwx (ι:=(Tx)×(Option Addr×Nat)×Tk) (κ:=(Option Addr×Nat)×Tk) [_] _ Y O en144 O O (fun i=>st i.1) (fun i=>glassL gb i.2.1 i.2.2) (fun i=>namP q25=some (i.1,i.2.2)∧Sl rdTok 3 HT i.2.1.1 i.2.1.2 i.2.2) (fun _=>brk) (fun i=>glassL gb i.1 i.2) (fun _=>namP q25=none) ([HT]) (by simp) (fun w hw=>(gname_any gb HT r25 q25 w hm25 hw).mono fun e w' h=>by
      rcases h with ⟨t,r2,q,h1,h2,h3,h4⟩ | ⟨r2,q,h1,h2,h3⟩
      · exact .inl ⟨(t,r2,q),h1,⟨h2,h3⟩,h4⟩
      · exact .inr ⟨(r2,q),h1,h2,h3⟩) ?_ ?_
  ·
   intro ⟨rp,qp⟩ hp
   refine WE.block_panic (Ep ?_)
   refine Epp fun w' hw=>?_
   exact .inr ⟨rp,qp,O,by simp only [declP,w_const,w_var,w_array,hn12,hq25,hp,Option.bind_some,Option.map_some,Option.bind_none,Option.map_none],(by have h:=hw; have h:=Wt 1 h; exact h)⟩
  intro ⟨s27,r27,q27⟩ ⟨hq27,hm27⟩
  have ok27:=tNam ok25 hq27
  refine V0 (Yf fo217_0 O) (Lst 1 Y O O O sz3 O O O (V0 (Yf fo217_1 O) (Lst 1 Y O O O sz9 O O O (Ln (Eb (Et (Cs (Cr (V0 (Ym O) ?_)))))))))
  refine Lb Y O el22 O O O O fun b47=>?_
  refine Lsv (T:=9) (m:=1) 0 [[59]] O O (show 1≤1 by decide) (by decide) fun H47 hH47=>?_
  refine Lf 0 O ?_
  refine Lwx (ι:=(Option Addr×Nat)×Tk) (κ:=(Option Addr×Nat)×Tk) [_] _ Y O en143 O O (fun _=>.tuple #[]) (fun i=>glassL gb i.1 i.2) (fun i=>mustT [[59]] q27=some i.2∧Sl rdTok 3 HT i.1.1 i.1.2 i.2) (fun _=>brk) (fun i=>glassL gb i.1 i.2) (fun _=>mustT [[59]] q27=none) ([HT,H47]) (by simp) (fun w hw=>(must_any gb HT r27 q27 H47 _ _ [[59]] w hH47 hm27 hw).mono fun e w' h=>by
      rcases h with ⟨r2,q,h1,h2,h3,h4⟩ | ⟨r2,q,h1,h2,h3⟩
      · exact .inl ⟨(r2,q),h1,⟨h2,h3⟩,h4⟩
      · exact .inr ⟨(r2,q),h1,h2,h3⟩) ?_ ?_
  ·
   intro ⟨rp,qp⟩ hp
   rw [must1] at hp
   refine Ep ?_
   refine Epp fun w' hw=>?_
   exact .inr ⟨rp,qp,O,by simp only [declP,w_const,w_var,w_array,hn12,hq25,hq27,hp,Option.bind_some,Option.map_some,Option.bind_none,Option.map_none],(by have h:=hw; have h:=Wt 1 h; have h:=Ws.drops h (Vs':=[HT]) (by simp); exact h)⟩
  intro ⟨r48,q48⟩ ⟨hq48,hm48⟩
  have ok48:=tMust ok27 hq48
  rw [must1] at hq48
  refine Ln (Et (Cs (Cr (V0 (Yda 1 O O ag217 O) (Lst 2 Y O O O sz217 O O O (V0 (Ya O) (Ln (Et (Crt ?_)))))))))
  refine WE.retR (rs_2 O (rv_agg 2 O O ag217 O) (rv_tmp O)) fun w' hw=>?_
  exact .inl ⟨some ⟨2,s27,pub,0⟩,r48,q48,O,by simp only [declP,w_const,w_var,w_array,hn12,hq25,hq27,hq48,Option.bind_some,Option.map_some,Option.bind_none,Option.map_none],hm48,Wv 1 (Wt 1 hw)⟩
 obtain ⟨hn25,hl25⟩:=h25f hc1
 subst hl25
 refine Cs (Cr (V0 (Ym O) (Lf 0 O ?_)))
 refine Lw (ι:=Bool×(Option Addr×Nat)×Tk) [_] _ Y O en145 O O (fun i=>.bool i.1) (fun i=>glassL gb i.2.1 i.2.2) (fun i=>(i.1=true→hasT [97,114,114,97,121] l=some i.2.2)∧(i.1=false→hasT [97,114,114,97,121] l=none∧l=i.2.2)∧Sl rdTok 3 HT i.2.1.1 i.2.1.2 i.2.2) [HT] (by simp) (fun w hw=>has_any gb HT r25 l [97,114,114,97,121] w hm25 hw) ?_
 intro ⟨b32,r32,q32⟩ ⟨h32t,h32f,hm32⟩
 refine V0 (Ya O) (Ln (Et ?_))
 refine Cc O (fun hc2=>?_) (fun hc2=>?_)
 ·
  have hq32:=h32t hc2
  have ok32:=tHas hok hq32
  refine Cs (Cr (V0 (Ym O) (Lf 0 O ?_)))
  refine Lwx (ι:=(Tx)×(Option Addr×Nat)×Tk) (κ:=(Option Addr×Nat)×Tk) [_] _ Y O en144 O O (fun i=>st i.1) (fun i=>glassL gb i.2.1 i.2.2) (fun i=>namP q32=some (i.1,i.2.2)∧Sl rdTok 3 HT i.2.1.1 i.2.1.2 i.2.2) (fun _=>brk) (fun i=>glassL gb i.1 i.2) (fun _=>namP q32=none) ([HT]) (by simp) (fun w hw=>(gname_any gb HT r32 q32 w hm32 hw).mono fun e w' h=>by
      rcases h with ⟨t,r2,q,h1,h2,h3,h4⟩ | ⟨r2,q,h1,h2,h3⟩
      · exact .inl ⟨(t,r2,q),h1,⟨h2,h3⟩,h4⟩
      · exact .inr ⟨(r2,q),h1,h2,h3⟩) ?_ ?_
  ·
   intro ⟨rp,qp⟩ hp
   refine Ep (WE.block_panic (Ep ?_))
   refine Epp fun w' hw=>?_
   exact .inr ⟨rp,qp,O,by simp only [declP,w_const,w_var,w_array,hn12,hn25,hq32,hp,Option.bind_some,Option.map_some,Option.bind_none,Option.map_none],(by have h:=hw; have h:=Wt 1 h; exact h)⟩
  intro ⟨s34,r34,q34⟩ ⟨hq34,hm34⟩
  have ok34:=tNam ok32 hq34
  refine V0 (Yf fo217_0 O) (Lst 1 Y O O O sz3 O O O (V0 (Yf fo217_1 O) (Lst 1 Y O O O sz9 O O O (Ln (Et (Cs (Cr (V0 (Ym O) ?_))))))))
  refine Lb Y O el22 O O O O fun b38=>?_
  refine Lsv (T:=9) (m:=1) 0 [[91]] O O (show 1≤1 by decide) (by decide) fun H38 hH38=>?_
  refine Lf 0 O ?_
  refine Lwx (ι:=(Option Addr×Nat)×Tk) (κ:=(Option Addr×Nat)×Tk) [_] _ Y O en143 O O (fun _=>.tuple #[]) (fun i=>glassL gb i.1 i.2) (fun i=>mustT [[91]] q34=some i.2∧Sl rdTok 3 HT i.1.1 i.1.2 i.2) (fun _=>brk) (fun i=>glassL gb i.1 i.2) (fun _=>mustT [[91]] q34=none) ([HT,H38]) (by simp) (fun w hw=>(must_any gb HT r34 q34 H38 _ _ [[91]] w hH38 hm34 hw).mono fun e w' h=>by
      rcases h with ⟨r2,q,h1,h2,h3,h4⟩ | ⟨r2,q,h1,h2,h3⟩
      · exact .inl ⟨(r2,q),h1,⟨h2,h3⟩,h4⟩
      · exact .inr ⟨(r2,q),h1,h2,h3⟩) ?_ ?_
  ·
   intro ⟨rp,qp⟩ hp
   rw [must1] at hp
   refine Ep (WE.block_panic (Ep ?_))
   refine Epp fun w' hw=>?_
   exact .inr ⟨rp,qp,O,by simp only [declP,w_const,w_var,w_array,hn12,hn25,hq32,hq34,hp,Option.bind_some,Option.map_some,Option.bind_none,Option.map_none],(by have h:=hw; have h:=Wt 1 h; have h:=Ws.drops h (Vs':=[HT]) (by simp); exact h)⟩
  intro ⟨r39,q39⟩ ⟨hq39,hm39⟩
  have ok39:=tMust ok34 hq39
  rw [must1] at hq39
  refine Ln (Et (Cs (Cr (V0 (Ym O) (Lf 0 O ?_)))))
  refine Lwx (ι:=(Int)×(Option Addr×Nat)×Tk) (κ:=(Option Addr×Nat)×Tk) [_] _ Y O en171 O O (fun i=>.int .i64 i.1) (fun i=>glassL gb i.2.1 i.2.2) (fun i=>numP q39=some (i.1,i.2.2)∧Sl rdTok 3 HT i.2.1.1 i.2.1.2 i.2.2) (fun _=>brk) (fun i=>glassL gb i.1 i.2) (fun _=>numP q39=none) ([HT]) (by simp) (fun w hw=>(gnum_any gb HT r39 q39 w hm39 hw).mono fun e w' h=>by
      rcases h with ⟨t,r2,q,h1,h2,h3,h4⟩ | ⟨r2,q,h1,h2,h3⟩
      · exact .inl ⟨(t,r2,q),h1,⟨h2,h3⟩,h4⟩
      · exact .inr ⟨(r2,q),h1,h2,h3⟩) ?_ ?_
  ·
   intro ⟨rp,qp⟩ hp
   refine Ep (WE.block_panic (Ep ?_))
   refine Epp fun w' hw=>?_
   exact .inr ⟨rp,qp,O,by simp only [declP,w_const,w_var,w_array,hn12,hn25,hq32,hq34,hq39,hp,Option.bind_some,Option.map_some,Option.bind_none,Option.map_none],(by have h:=hw; have h:=Wt 1 h; have h:=Ws.drops h (Vs':=[HT]) (by simp); exact h)⟩
  intro ⟨n41,r41,q41⟩ ⟨hq41,hm41⟩
  have ok41:=tNum ok39 hq41
  refine V0 (Yf fo217_3 O) (Lst 1 Y O O O sz3 O O O (Ln (Et (Cr (V0 (Ym O) ?_)))))
  refine Lb Y O el22 O O O O fun b44=>?_
  refine Lsv (T:=9) (m:=1) 0 [[93]] O O (show 1≤1 by decide) (by decide) fun H44 hH44=>?_
  refine Lf 0 O ?_
  refine Lwx (ι:=(Option Addr×Nat)×Tk) (κ:=(Option Addr×Nat)×Tk) [_] _ Y O en143 O O (fun _=>.tuple #[]) (fun i=>glassL gb i.1 i.2) (fun i=>mustT [[93]] q41=some i.2∧Sl rdTok 3 HT i.1.1 i.1.2 i.2) (fun _=>brk) (fun i=>glassL gb i.1 i.2) (fun _=>mustT [[93]] q41=none) ([HT,H44]) (by simp) (fun w hw=>(must_any gb HT r41 q41 H44 _ _ [[93]] w hH44 hm41 hw).mono fun e w' h=>by
      rcases h with ⟨r2,q,h1,h2,h3,h4⟩ | ⟨r2,q,h1,h2,h3⟩
      · exact .inl ⟨(r2,q),h1,⟨h2,h3⟩,h4⟩
      · exact .inr ⟨(r2,q),h1,h2,h3⟩) ?_ ?_
  ·
   intro ⟨rp,qp⟩ hp
   rw [must1] at hp
   refine WE.block_panic (Ep ?_)
   refine Epp fun w' hw=>?_
   exact .inr ⟨rp,qp,O,by simp only [declP,w_const,w_var,w_array,hn12,hn25,hq32,hq34,hq39,hq41,hp,Option.bind_some,Option.map_some,Option.bind_none,Option.map_none],(by have h:=hw; have h:=Wt 1 h; have h:=Ws.drops h (Vs':=[HT]) (by simp); exact h)⟩
  intro ⟨r45,q45⟩ ⟨hq45,hm45⟩
  have ok45:=tMust ok41 hq45
  rw [must1] at hq45
  refine Ln (Eb (Et (Cs (Cr (V0 (Ym O) ?_)))))
  refine Lb Y O el22 O O O O fun b47=>?_
  refine Lsv (T:=9) (m:=1) 0 [[59]] O O (show 1≤1 by decide) (by decide) fun H47 hH47=>?_
  refine Lf 0 O ?_
  refine Lwx (ι:=(Option Addr×Nat)×Tk) (κ:=(Option Addr×Nat)×Tk) [_] _ Y O en143 O O (fun _=>.tuple #[]) (fun i=>glassL gb i.1 i.2) (fun i=>mustT [[59]] q45=some i.2∧Sl rdTok 3 HT i.1.1 i.1.2 i.2) (fun _=>brk) (fun i=>glassL gb i.1 i.2) (fun _=>mustT [[59]] q45=none) ([HT,H47]) (by simp) (fun w hw=>(must_any gb HT r45 q45 H47 _ _ [[59]] w hH47 hm45 hw).mono fun e w' h=>by
      rcases h with ⟨r2,q,h1,h2,h3,h4⟩ | ⟨r2,q,h1,h2,h3⟩
      · exact .inl ⟨(r2,q),h1,⟨h2,h3⟩,h4⟩
      · exact .inr ⟨(r2,q),h1,h2,h3⟩) ?_ ?_
  ·
   intro ⟨rp,qp⟩ hp
   rw [must1] at hp
   refine Ep ?_
   refine Epp fun w' hw=>?_
   exact .inr ⟨rp,qp,O,by simp only [declP,w_const,w_var,w_array,hn12,hn25,hq32,hq34,hq39,hq41,hq45,hp,Option.bind_some,Option.map_some,Option.bind_none,Option.map_none],(by have h:=hw; have h:=Wt 1 h; have h:=Ws.drops h (Vs':=[HT]) (by simp); exact h)⟩
  intro ⟨r48,q48⟩ ⟨hq48,hm48⟩
  have ok48:=tMust ok45 hq48
  rw [must1] at hq48
  refine Ln (Et (Cs (Cr (V0 (Yda 1 O O ag217 O) (Lst 2 Y O O O sz217 O O O (V0 (Ya O) (Ln (Et (Crt ?_)))))))))
  refine WE.retR (rs_2 O (rv_agg 2 O O ag217 O) (rv_tmp O)) fun w' hw=>?_
  exact .inl ⟨some ⟨3,s34,pub,n41⟩,r48,q48,O,by simp only [declP,w_const,w_var,w_array,hn12,hn25,hq32,hq34,hq39,hq41,hq45,hq48,Option.bind_some,Option.map_some,Option.bind_none,Option.map_none],hm48,Wv 3 (Wt 1 hw)⟩
 obtain ⟨hn32,hl32⟩:=h32f hc2
 subst hl32
 refine Cs (Cr (V0 (Yda 1 O O ag217 O) (Lst 2 Y O O O sz217 O O O (V0 (Ya O) (Ln (Et (Crt (Ebr (Er ?_)))))))))
 refine WE.retR (rs_2 O (rv_agg 2 O O ag217 O) (rv_tmp O)) fun w' hw=>?_
 exact .inl ⟨none,r32,l,O,by simp only [declP,w_const,w_var,w_array,hn12,hn25,hn32,Option.bind_some,Option.map_some,Option.bind_none,Option.map_none],hm32,Wt 1 hw⟩
end Go.Proofs.YtplfmnkmlaolpaaGreatDoor
end
