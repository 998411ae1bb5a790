/- Parts of the proof of SniffWritten: JWt, JQuo, JLay, JChk, LexR, RChk. -/
import Derived.Test.YtmooaepbdmengaaGreatDoorZ03
import Derived.Test.YtmooaepbdmengaaGreatDoorZ02
import Derived.Test.YtmooaepbdmengaaGreatDoorZ05
import Derived.Test.YtmooaepbdmengaaGreatDoorZ09
import Derived.Laws.MakeOwn
import Derived.Deep.Cut
namespace Go.Proofs.YtmooaepbdmengaaGreatDoor
open Go.RowKit
set_option linter.unusedVariables false
set_option linter.unusedSimpArgs false
mutual
def wtJ:J→Nat
 | .mk _ t m=>2+t.length+wtM m
def wtM:M→Nat
 | .nil=>0
 | .cons n v r=>n.length+wtJ v+wtM r
end
mutual
theorem print_wt:∀ j:J,(printJ j).length+4≤8 * wtJ j
 | .mk k t m=>by
  have h1:=quoteL_len t
  have h2:=quoteM_len t
  have h3:=printM_wt true true m
  have h4:=printM_wt false true m
  simp only [printJ,wtJ]
  repeat' split
  all_goals try simp only [List.length_cons,List.length_nil,List.length_append]
  all_goals omega
theorem printM_wt:∀ (obj fst:Bool) (m:M),(printM obj fst m).length≤8 * wtM m
 | _,_,.nil=>by simp [printM]
 | obj,fst,.cons n v r=>by
  have h1:=quoteL_len n
  have h2:=quoteM_len n
  have h3:=print_wt v
  have h4:=printM_wt obj false r
  have h5:(named obj n).length≤6 * n.length+3:=by
   unfold named
   cases obj
   ·simp
   ·simp only [if_true,List.length_append,List.length_cons,List.length_nil];omega
  have h6:(if fst then ([]:List UInt8) else [44]).length≤1:=by cases fst<;>simp
  simp only [printM,wtM,List.length_append]
  omega
end
theorem wtM_get:∀ (m:M) (i:Nat) (n:List UInt8) (v:J),m.get? i=some (n,v)→n.length+wtJ v+wtM (m.drop (i+1))≤wtM (m.drop i)∧wtM (m.drop i)≤wtM m
 | .nil,i,n,v,h=>by simp [M.get?] at h
 | .cons n' v' r,0,n,v,h=>by
  simp only [M.get?,Option.some.injEq,Prod.mk.injEq] at h
  obtain ⟨rfl,rfl⟩:=h
  simp [M.drop,wtM]
 | .cons n' v' r,i+1,n,v,h=>by
  have:=wtM_get r i n v h
  simp only [M.drop,wtM] at this ⊢
  omega
theorem checkM_get:∀ (m:M) (i:Nat) (n:List UInt8) (v:J),checkM m=0→m.get? i=some (n,v)→wholeTo n=n.length∧checkJ v=0
 | .nil,i,n,v,_,h=>by simp [M.get?] at h
 | .cons n' v' r,0,n,v,hc,h=>by
  simp only [M.get?,Option.some.injEq,Prod.mk.injEq] at h
  obtain ⟨rfl,rfl⟩:=h
  exact ⟨(check_cons hc).1,(check_cons hc).2.1⟩
 | .cons n' v' r,i+1,n,v,hc,h=>checkM_get r i n v (check_cons hc).2.2 h
theorem wtM_len:∀ m:M,2 * m.len≤wtM m
 | .nil=>by simp [M.len]
 | .cons n v r=>by
  have:=wtM_len r
  have h:2≤wtJ v:=by cases v;simp only [wtJ];omega
  simp only [M.len,wtM]
  omega
attribute [local go_sem ↓] Go.wp_at_zero Go.wp_at_succ
theorem below_cellB {W w':World} {B:Nat} {p:Addr} {v:Value} (hb:Below B W w') (h:W.cell? p=some v) (hB:p.block < B):w'.cell? p=some v:=(hb.cell hB).trans h
def ChkSaid (g:Nat) (d:Nat):Prop:=∀ (j:J),wtJ j≤d→∀ (S:Nat→Prop) (w:World) (c:Array Value),RdJ S w j c→wtJ j≤100000 →
 Calls Tryz.prog g #[.agg c] w fun e w'=>e=.returned (.int .i64 (checkJ j:Nat))∧Below w.heap.size w w'
theorem bare_get (m:M) (j:Nat) (n:List UInt8) (v:J) (h:m.get? j=some (n,v)):(m.drop j).bare=(n.isEmpty && (m.drop (j+1)).bare):=by rw [M.drop_get m j n v h];rfl
theorem checkM_drop (m:M) (j:Nat) (n:List UInt8) (v:J) (h:m.get? j=some (n,v)):checkM (m.drop j)=if wholeB n=false then 4 else if checkJ v≠0 then checkJ v else checkM (m.drop (j+1)):=by rw [M.drop_get m j n v h];rfl
theorem sl_nil {x:ByteArray} (h:sl x=[]):x=⟨#[]⟩:=by
 have:=congrArg txt h
 rwa [txt_sl] at this
theorem sl_ne {x:ByteArray} (h:sl x≠[]):x.toList.isEmpty=false:=by rw [toList_sl];cases hh:sl x with
 | nil=>exact absurd hh h
 | cons=>rfl
theorem isNil_len (m:M):m.isNil=decide (m.len=0):=by cases m<;>simp [M.isNil,M.len]
def fstIs (x:ByteArray) (c:Nat):Bool:=match sl x with|[]=>false|d::_=>decide (d.toNat=c)
theorem fst_nil {x:ByteArray} {c:Nat} (h:¬ 0 < x.size):fstIs x c=false:=by
 unfold fstIs
 have:(sl x).length=0:=by rw [sl_len];omega
 rw [List.eq_nil_of_length_eq_zero this]
theorem fst_at {x:ByteArray} {c:Nat} (h:0 < x.size):fstIs x c=decide ((x[0]'h).toNat=c):=by
 unfold fstIs
 have hd:=sl_drop h
 rw [List.drop_zero] at hd
 rw [hd]
theorem fst_true {x:ByteArray} {c:Nat} (hc:c < 256) (h:fstIs x c=true):∃ r,sl x=UInt8.ofNat c::r∧1≤x.size:=by
 unfold fstIs at h
 rw [← sl_len]
 cases hs:sl x with
 | nil=>rw [hs] at h;simp at h
 | cons d r=>
  rw [hs] at h
  exact ⟨r,by rw [(u8_eq d c hc).1 (of_decide_eq_true h)],by simp⟩
theorem fst_false {x:ByteArray} {c:Nat} (hc:c < 256) (h:fstIs x c=false):∀ d r,sl x=d::r→d≠UInt8.ofNat c:=by
 intro d r e hd
 unfold fstIs at h
 rw [e] at h
 have:=(u8_eq d c hc).2 hd
 simp at h
 exact h this
def lexBody (l:List UInt8):Nat:=if digs l=0∨(hd l=48∧1 < digs l) then 0 else lexFrac (l.drop (digs l))
theorem lexeme_minus {x:ByteArray} (h:fstIs x 45=true):lexeme (sl x)=lexBody ((sl x).drop 1):=by
 obtain ⟨r,hr,_⟩:=fst_true (by omega) h
 rw [hr];rfl
theorem lexeme_else {x:ByteArray} (h:fstIs x 45=false):lexeme (sl x)=lexBody (sl x):=by
 have hf:=fst_false (by omega) h
 cases hs:sl x with
 | nil=>rfl
 | cons c r=>
  have:¬ c=45:=hf c r hs
  unfold lexeme lexBody
  simp only
  rw [if_neg this]
theorem frac_dot {x:ByteArray} (h:fstIs x 46=true):lexFrac (sl x)=if digs ((sl x).drop 1)=0 then 0 else lexExp 2 ((sl x).drop (1+digs ((sl x).drop 1))):=by
 obtain ⟨r,hr,_⟩:=fst_true (by omega) h
 rw [hr,Nat.add_comm]
 rfl
theorem frac_else {x:ByteArray} (h:fstIs x 46=false):lexFrac (sl x)=lexExp 1 (sl x):=by
 have hf:=fst_false (by omega) h
 cases hs:sl x with
 | nil=>rfl
 | cons c r=>
  have:¬ c=46:=hf c r hs
  rw [lexFrac,if_neg this]
theorem exp_e {x:ByteArray} {k:Nat} (h:(fstIs x 101 || fstIs x 69)=true):lexExp k (sl x)=tlD (expR ((sl x).drop 1))∧1≤x.size:=by
 rw [Bool.or_eq_true] at h
 rcases h with h|h
 ·obtain ⟨r,hr,h1⟩:=fst_true (by omega) h
  refine ⟨?_,h1⟩
  rw [hr];exact lexExp_cons k _ r (.inl rfl)
 ·obtain ⟨r,hr,h1⟩:=fst_true (by omega) h
  refine ⟨?_,h1⟩
  rw [hr];exact lexExp_cons k _ r (.inr rfl)
theorem exp_else {x:ByteArray} {k:Nat} (h:(fstIs x 101 || fstIs x 69)=false):lexExp k (sl x)=if (sl x).isEmpty then k else 0:=by
 rw [Bool.or_eq_false_iff] at h
 have h1:=fst_false (by omega) h.1
 have h2:=fst_false (by omega) h.2
 cases hs:sl x with
 | nil=>rfl
 | cons c r=>
  have e1:¬ c=101:=h1 c r hs
  have e2:¬ c=69:=h2 c r hs
  simp only [lexExp]
  rw [if_neg (fun e=>e.elim e1 e2)]
  rfl
theorem sgn_yes {x:ByteArray} (h:(fstIs x 43 || fstIs x 45)=true):expR (sl x)=(sl x).drop 1∧1≤x.size:=by
 rw [Bool.or_eq_true] at h
 rcases h with h|h
 ·obtain ⟨r,hr,h1⟩:=fst_true (by omega) h
  refine ⟨?_,h1⟩
  rw [hr];rfl
 ·obtain ⟨r,hr,h1⟩:=fst_true (by omega) h
  refine ⟨?_,h1⟩
  rw [hr];rfl
theorem sgn_no {x:ByteArray} (h:(fstIs x 43 || fstIs x 45)=false):expR (sl x)=sl x:=by
 rw [Bool.or_eq_false_iff] at h
 have h1:=fst_false (by omega) h.1
 have h2:=fst_false (by omega) h.2
 cases hs:sl x with
 | nil=>rfl
 | cons c r=>
  have e1:¬ c=43:=h1 c r hs
  have e2:¬ c=45:=h2 c r hs
  simp only [expR]
  rw [if_neg (fun e=>e.elim e1 e2)]
theorem hd_fst {x:ByteArray} (h:0 < x.size):(hd (sl x)=48) ↔ ((x[0]'h).toNat=48):=by
 have hd':=sl_drop h
 rw [List.drop_zero] at hd'
 rw [hd']
 exact (u8_eq _ 48 (by omega)).symm
theorem ext_drop (x:ByteArray) (n:Nat):sl (x.extract n x.size)=(sl x).drop n:=by
 rw [sl_ext,List.take_of_length_le]
 rw [List.length_drop,sl_len];omega
theorem ext_size (x:ByteArray) (n:Nat) (h:x.size≤1000000):(x.extract n x.size).size≤1000000:=by
 rw [← sl_len,ext_drop,List.length_drop,sl_len];omega
def LxS (F:List UInt8→Nat) (R:Nat) (y:Value):Prop:=∃ x:ByteArray,y=.string x∧x.size≤1000000∧R=F (sl x)
def LxK (R:Nat) (y k:Value):Prop:=∃ (x:ByteArray) (n:Nat),y=.string x∧k=.int .i64 (n:Nat)∧x.size≤1000000∧R=lexExp n (sl x)
def LxE (R:Nat) (y k:Value):Prop:=∃ (x:ByteArray) (n:Nat),y=.string x∧k=.int .i64 (n:Nat)∧x.size≤1000000∧R=if (sl x).isEmpty then n else 0
set_option maxRecDepth 100000 in
set_option maxHeartbeats 4000000 in
theorem rlexeme_calls (s:ByteArray) (hs:s.size≤1000000) (w:World) :
  Calls Tryz.prog 56 #[.string s] w fun e w'=>e=.returned (.int .i64 ((lexeme (sl s):Nat):Int))∧Below w.heap.size w w':=by
 obtain ⟨R,hR⟩:∃ R:Nat,R=lexeme (sl s):=⟨_,rfl⟩
 rw [← hR]
 have HR:=Lib.hid hR
 have CR:=fun x hx W=>Lib.hid (run_calls x hx W)
 have HW:=Lib.hid (Below.refl w.heap.size w)
 clear hR
 go_enter Tryz.func56,Tryz.ntmps56
 go_upto_region 2 with fail
 go_cut [12] from 5 (fun t W=>t=.bool (fstIs s 45)∧Below w.heap.size w W)
 case first=>
  by_cases h0:0 < s.size
  ·have hf:=fst_at (c:=45) h0
   by_cases h1:(s[0]'h0).toNat=45
   ·have hI:((s[0]'h0).toNat:Int)=45:=by rw [h1];rfl
    rw [decide_eq_true h1] at hf
    clear h1
    go_wp2_with fail
    go_meet
    case rel=>exact ⟨by rw [hf]<;>first|rfl|(rw [hI])|(simp [hI]),HW.out⟩
   ·have hI:(((s[0]'h0).toNat:Int) == 45)=false:=by simp only [beq_eq_false_iff_ne];intro e;exact h1 (Int.ofNat_inj.1 e)
    rw [decide_eq_false h1] at hf
    clear h1
    go_wp2_with fail
    go_meet
    case rel=>exact ⟨by rw [hf]<;>first|rfl|(rw [hI])|(simp [hI]),HW.out⟩
  ·have hf:=fst_nil (c:=45) h0
   have hI:decide ((0:Int) < (s.size:Int))=false:=decide_eq_false (by omega)
   have hI2:decide (0 < s.size)=false:=decide_eq_false h0
   have hI3:s.size=0:=by omega
   clear h0
   go_wp2_with fail
   go_meet
   case rel=>exact ⟨by rw [hf]<;>first|rfl|(rw [hI])|(simp [hI]),HW.out⟩
 case rest=>
 obtain ⟨rfl,hw9⟩:=hcut
 clear HW
 have HW:=Lib.hid hw9
 clear hw9
 go_upto_if 12 with fail
 go_cut [0] from 5 (fun y W=>LxS lexBody R y∧Below w.heap.size w W)
 case first=>
  cases hb:fstIs s 45 with
  | true=>
   have hl:=lexeme_minus hb
   obtain ⟨_,_,h1⟩:=fst_true (by omega) hb
   clear hb
   go_wp2_with fail
   go_meet
   case rel=>exact ⟨⟨_,rfl,ext_size _ _ hs,by rw [HR.out,hl,ext_drop]⟩,HW.out⟩
  | false=>
   have hl:=lexeme_else hb
   clear hb
   go_wp2_with fail
   go_meet
   case rel=>exact ⟨⟨_,rfl,hs,by rw [HR.out,hl]⟩,HW.out⟩
 case rest=>
 obtain ⟨⟨x,rfl,hx,hRx⟩,hw9⟩:=hcut
 clear HW
 have HW:=Lib.hid hw9
 have HX:=Lib.hid hRx
 clear hRx HR hw9
 obtain ⟨n,hn⟩:∃ n,n=digs (sl x):=⟨_,rfl⟩
 have CR1:=fun W=>CR x hx W
 rw [← hn] at CR1
 have hnl:n≤x.size:=by rw [hn,← sl_len];exact digs_le _
 have HN:=Lib.hid hn
 clear hn
 go_wp2_with fail
 refine (CR1 _).out.mono ?_
 rintro e w1 ⟨rfl,rfl⟩
 by_cases hn0:n=0
 ·subst hn0
  have HZ:Hid (R=0):=by show _=_;rw [HX.out,lexBody,← HN.out,if_pos (.inl rfl)]
  go_wp2_with fail
  go_ret
  exact ⟨by rw [HZ.out];rfl,HW.out⟩
 have bn:((n:Int) == 0)=false:=by simp;omega
 have h0:0 < x.size:=by omega
 have hhd:=hd_fst h0
 by_cases h48:(x[0]'h0).toNat=48∧1 < n
 ·have HZ:Hid (R=0):=by show _=_;rw [HX.out,lexBody,← HN.out,if_pos (.inr ⟨hhd.2 h48.1,h48.2⟩)]
  have hI:((x[0]'h0).toNat:Int)=48:=by rw [h48.1];rfl
  have hJ:decide ((1:Int) < (n:Int))=true:=by simp;omega
  clear h48 hhd
  go_wp2_with fail
  go_ret
  exact ⟨by rw [HZ.out];rfl,HW.out⟩
 have HY:Hid (R=lexFrac ((sl x).drop n)):=by
  show _=_
  rw [HX.out,lexBody,← HN.out,if_neg]
  rintro (e | ⟨e,e2⟩)
  ·exact hn0 e
  ·exact h48 ⟨hhd.1 e,e2⟩
 go_upto_region 5 with fail
 go_cut [27] from 5 (fun t W=>t=.bool false∧Below w.heap.size w W)
 case first=>
  by_cases h1:(x[0]'h0).toNat=48
  ·have hI:((x[0]'h0).toNat:Int)=48:=by rw [h1];rfl
   have hJ:decide ((1:Int) < (n:Int))=false:=decide_eq_false (by have:=fun e=>h48 ⟨h1,e⟩;omega)
   clear h48 h1
   go_wp2_with fail
   go_meet
   case rel=>exact ⟨rfl,HW.out⟩
  ·have hI:(((x[0]'h0).toNat:Int) == 48)=false:=by simp only [beq_eq_false_iff_ne];intro e;exact h1 (Int.ofNat_inj.1 e)
   clear h48 h1
   go_wp2_with fail
   go_meet
   case rel=>exact ⟨rfl,HW.out⟩
 case rest=>
 obtain ⟨rfl,hw9⟩:=hcut
 clear HW
 have HW:=Lib.hid hw9
 have hnx:(n:Int)≤(x.size:Int):=by omega
 clear hw9 h48 hhd
 go_upto_region 8 with fail
 obtain ⟨z,hz⟩:∃ z,z=x.extract n x.size:=⟨_,rfl⟩
 have hz2:z.size≤1000000:=by rw [hz];exact ext_size _ _ hx
 have HZ:Hid (R=lexFrac (sl z)):=by show _=_;rw [hz,ext_drop];exact HY.out
 rw [← hz]
 clear hz HX HY HN CR1 hnl hnx h0 bn hn0
 go_cut [38] from 5 (fun t W=>t=.bool (fstIs z 46)∧Below w.heap.size w W)
 case first=>
  by_cases h0:0 < z.size
  ·have hf:=fst_at (c:=46) h0
   by_cases h1:(z[0]'h0).toNat=46
   ·have hI:((z[0]'h0).toNat:Int)=46:=by rw [h1];rfl
    rw [decide_eq_true h1] at hf
    clear h1
    go_wp2_with fail
    go_meet
    case rel=>exact ⟨by rw [hf]<;>first|rfl|(rw [hI])|(simp [hI]),HW.out⟩
   ·have hI:(((z[0]'h0).toNat:Int) == 46)=false:=by simp only [beq_eq_false_iff_ne];intro e;exact h1 (Int.ofNat_inj.1 e)
    rw [decide_eq_false h1] at hf
    clear h1
    go_wp2_with fail
    go_meet
    case rel=>exact ⟨by rw [hf]<;>first|rfl|(rw [hI])|(simp [hI]),HW.out⟩
  ·have hf:=fst_nil (c:=46) h0
   have hI:decide ((0:Int) < (z.size:Int))=false:=decide_eq_false (by omega)
   have hI2:decide (0 < z.size)=false:=decide_eq_false h0
   have hI3:z.size=0:=by omega
   clear h0
   go_wp2_with fail
   go_meet
   case rel=>exact ⟨by rw [hf]<;>first|rfl|(rw [hI])|(simp [hI]),HW.out⟩
 case rest=>
 obtain ⟨rfl,hw9⟩:=hcut
 clear HW
 have HW:=Lib.hid hw9
 clear hw9
 go_upto_if 38 with fail
 go_cut [0,3] from 5 (fun y k W=>LxK R y k∧Below w.heap.size w W)
 case first=>
  cases hb:fstIs z 46 with
  | true=>
   have hl:=frac_dot hb
   obtain ⟨_,_,h1⟩:=fst_true (by omega) hb
   obtain ⟨m,hm⟩:∃ m,m=digs ((sl z).drop 1):=⟨_,rfl⟩
   rw [← hm] at hl
   have CR1:=fun W=>CR (z.extract 1 z.size) (ext_size _ _ hz2) W
   rw [ext_drop,← hm] at CR1
   have hml:1+m≤z.size:=by
    have:=digs_le ((sl z).drop 1)
    rw [List.length_drop,sl_len] at this
    omega
   have HL:=Lib.hid hl
   clear hb hl hm
   go_wp2_with fail
   refine (CR1 _).out.mono ?_
   rintro e w1 ⟨rfl,rfl⟩
   by_cases hm0:m=0
   ·subst hm0
    have HT:Hid (R=0):=by show _=_;rw [HZ.out,HL.out,if_pos rfl]
    go_wp2_with fail
    go_ret
    exact ⟨by rw [HT.out];rfl,HW.out⟩
   have bm:((m:Int) == 0)=false:=by simp;omega
   have hwr:IntKind.i64.wrap (1+(m:Int))=1+(m:Int):=by simp [IntKind.wrap,IntKind.bits,IntKind.signed];omega
   have hq0:(0:Int)≤1+(m:Int):=by omega
   have hq1:(1:Int)+(m:Int)≤(z.size:Int):=by omega
   go_wp2_with fail
   go_quiet (fail)
   go_wp2_with fail
   go_meet
   case rel=>exact ⟨⟨_,2,rfl,rfl,ext_size _ _ hz2,by rw [HZ.out,HL.out,if_neg hm0,ext_drop]⟩,HW.out.trans (below_drewN _ _ _)⟩
  | false=>
   have hl:=frac_else hb
   clear hb
   go_wp2_with fail
   go_meet
   case rel=>exact ⟨⟨_,1,rfl,rfl,hz2,by rw [HZ.out,hl]⟩,HW.out⟩
 case rest=>
 obtain ⟨⟨y,k,rfl,rfl,hy,hRy⟩,hw9⟩:=hcut
 clear HW
 have HW:=Lib.hid hw9
 have HY:=Lib.hid hRy
 clear hRy HZ hw9
 go_upto_region 13 with fail
 go_cut [60] from 5 (fun t W=>t=.bool (fstIs y 101 || fstIs y 69)∧Below w.heap.size w W)
 case first=>
  by_cases h0:0 < y.size
  ·have hf:=fst_at (c:=101) h0
   have hg:=fst_at (c:=69) h0
   by_cases h1:(y[0]'h0).toNat=101
   ·have hI:((y[0]'h0).toNat:Int)=101:=by rw [h1];rfl
    rw [decide_eq_true h1] at hf
    clear h1 hg
    go_wp2_with fail
    go_meet
    case rel=>exact ⟨by rw [hf];rfl,HW.out⟩
   have hI:(((y[0]'h0).toNat:Int) == 101)=false:=by simp only [beq_eq_false_iff_ne];intro e;exact h1 (Int.ofNat_inj.1 e)
   rw [decide_eq_false h1] at hf
   by_cases h2:(y[0]'h0).toNat=69
   ·have hJ:(((y[0]'h0).toNat:Int) == 69)=true:=by rw [h2];rfl
    rw [decide_eq_true h2] at hg
    clear h1 h2
    go_wp2_with fail
    go_meet
    case rel=>exact ⟨by rw [hf,hg];rfl,HW.out⟩
   ·have hJ:(((y[0]'h0).toNat:Int) == 69)=false:=by simp only [beq_eq_false_iff_ne];intro e;exact h2 (Int.ofNat_inj.1 e)
    rw [decide_eq_false h2] at hg
    clear h1 h2
    go_wp2_with fail
    go_meet
    case rel=>exact ⟨by rw [hf,hg];rfl,HW.out⟩
  ·have hf:=fst_nil (c:=101) h0
   have hg:=fst_nil (c:=69) h0
   have hI:decide ((0:Int) < (y.size:Int))=false:=decide_eq_false (by omega)
   have hI2:decide (0 < y.size)=false:=decide_eq_false h0
   have hI3:y.size=0:=by omega
   clear h0
   go_wp2_with fail
   go_meet
   case rel=>exact ⟨by rw [hf,hg];rfl,HW.out⟩
 case rest=>
 obtain ⟨rfl,hw9⟩:=hcut
 clear HW
 have HW:=Lib.hid hw9
 clear hw9
 go_upto_if 60 with fail
 go_cut [0,3] from 5 (fun t k W=>LxE R t k∧Below w.heap.size w W)
 case first=>
  cases hb:(fstIs y 101 || fstIs y 69) with
  | false=>
   have hl:=exp_else (k:=k) hb
   clear hb
   go_wp2_with fail
   go_meet
   case rel=>exact ⟨⟨_,k,rfl,rfl,hy,by rw [HY.out,hl]⟩,HW.out⟩
  | true=>
   obtain ⟨hl,h1⟩:=exp_e (k:=k) hb
   clear hb
   go_upto_region 15 with fail
   obtain ⟨v,hv⟩:∃ v,v=y.extract 1 y.size:=⟨_,rfl⟩
   have hv2:v.size≤1000000:=by rw [hv];exact ext_size _ _ hy
   have HV:Hid (R=tlD (expR (sl v))):=by show _=_;rw [hv,ext_drop,HY.out,hl]
   rw [← hv]
   clear hv hl h1 HY
   go_cut [75] from 5 (fun t W=>t=.bool (fstIs v 43 || fstIs v 45)∧Below w.heap.size w W)
   case first=>
    by_cases h0:0 < v.size
    ·have hf:=fst_at (c:=43) h0
     have hg:=fst_at (c:=45) h0
     by_cases h1:(v[0]'h0).toNat=43
     ·have hI:((v[0]'h0).toNat:Int)=43:=by rw [h1];rfl
      rw [decide_eq_true h1] at hf
      clear h1 hg
      go_wp2_with fail
      go_meet
      case rel=>exact ⟨by rw [hf];rfl,HW.out⟩
     have hI:(((v[0]'h0).toNat:Int) == 43)=false:=by simp only [beq_eq_false_iff_ne];intro e;exact h1 (Int.ofNat_inj.1 e)
     rw [decide_eq_false h1] at hf
     by_cases h2:(v[0]'h0).toNat=45
     ·have hJ:(((v[0]'h0).toNat:Int) == 45)=true:=by rw [h2];rfl
      rw [decide_eq_true h2] at hg
      clear h1 h2
      go_wp2_with fail
      go_meet
      case rel=>exact ⟨by rw [hf,hg];rfl,HW.out⟩
     ·have hJ:(((v[0]'h0).toNat:Int) == 45)=false:=by simp only [beq_eq_false_iff_ne];intro e;exact h2 (Int.ofNat_inj.1 e)
      rw [decide_eq_false h2] at hg
      clear h1 h2
      go_wp2_with fail
      go_meet
      case rel=>exact ⟨by rw [hf,hg];rfl,HW.out⟩
    ·have hf:=fst_nil (c:=43) h0
     have hg:=fst_nil (c:=45) h0
     have hI:decide ((0:Int) < (v.size:Int))=false:=decide_eq_false (by omega)
     have hI2:decide (0 < v.size)=false:=decide_eq_false h0
     have hI3:v.size=0:=by omega
     clear h0
     go_wp2_with fail
     go_meet
     case rel=>exact ⟨by rw [hf,hg];rfl,HW.out⟩
   case rest=>
   obtain ⟨rfl,hw9⟩:=hcut
   clear HW
   have HW:=Lib.hid hw9
   clear hw9
   go_upto_if 75 with fail
   go_cut [0] from 5 (fun t W=>LxS tlD R t∧Below w.heap.size w W)
   case first=>
    cases hb:(fstIs v 43 || fstIs v 45) with
    | true=>
     obtain ⟨hl,h1⟩:=sgn_yes hb
     clear hb
     go_wp2_with fail
     go_meet
     case rel=>exact ⟨⟨_,rfl,ext_size _ _ hv2,by rw [HV.out,hl,ext_drop]⟩,HW.out⟩
    | false=>
     have hl:=sgn_no hb
     clear hb
     go_wp2_with fail
     go_meet
     case rel=>exact ⟨⟨_,rfl,hv2,by rw [HV.out,hl]⟩,HW.out⟩
   case rest=>
   obtain ⟨⟨q,rfl,hq,hRq⟩,hw9⟩:=hcut
   clear HW
   have HW:=Lib.hid hw9
   have HQ:=Lib.hid hRq
   clear hRq HV hw9
   obtain ⟨m,hm⟩:∃ m,m=digs (sl q):=⟨_,rfl⟩
   have CR1:=fun W=>CR q hq W
   rw [← hm] at CR1
   have hml:m≤q.size:=by rw [hm,← sl_len];exact digs_le _
   have HM:=Lib.hid hm
   clear hm
   go_wp2_with fail
   refine (CR1 _).out.mono ?_
   rintro e w1 ⟨rfl,rfl⟩
   by_cases hm0:m=0
   ·subst hm0
    have HT:Hid (R=0):=by show _=_;rw [HQ.out,tlD,← HM.out,if_pos rfl]
    go_wp2_with fail
    go_ret
    exact ⟨by rw [HT.out];rfl,HW.out⟩
   have bm:((m:Int) == 0)=false:=by simp;omega
   have hq0:(0:Int)≤(m:Int):=by omega
   have hq1:(m:Int)≤(q.size:Int):=by omega
   have HT:Hid (R=if (sl (q.extract m q.size)).isEmpty then 2 else 0):=by
    show _=_
    rw [HQ.out,tlD,← HM.out,if_neg hm0,ext_drop]
    by_cases he:m=(sl q).length
    ·rw [if_pos he,List.drop_of_length_le (by omega)];rfl
    ·rw [if_neg he]
     have:((sl q).drop m).isEmpty=false:=by
      cases hd':(sl q).drop m with
      | nil=>have:=congrArg List.length hd';rw [List.length_drop,List.length_nil] at this;rw [sl_len] at this he;omega
      | cons=>rfl
     rw [this];rfl
   go_wp2_with fail
   go_quiet (fail)
   go_wp2_with fail
   go_meet
   case rel=>exact ⟨⟨_,2,rfl,rfl,ext_size _ _ hq,by simpa using HT.out⟩,HW.out.trans (below_drewN _ _ _)⟩
 case rest=>
 obtain ⟨⟨t,k,rfl,rfl,ht,hRt⟩,hw9⟩:=hcut
 clear HW
 have HW:=Lib.hid hw9
 have HT:=Lib.hid hRt
 clear hRt hw9 HY
 cases he:(sl t).isEmpty with
 | true=>
  have hie:t.toList.isEmpty=true:=by rw [toList_sl];exact he
  have HU:Hid (R=k):=by show _=_;rw [HT.out,if_pos he]
  clear he
  go_wp2_with fail
  go_ret
  exact ⟨by rw [HU.out];rfl,HW.out⟩
 | false=>
  have hie:t.toList.isEmpty=false:=by rw [toList_sl];exact he
  have HU:Hid (R=0):=by show _=_;rw [HT.out,if_neg (by rw [he];simp)]
  clear he
  go_wp2_with fail
  go_ret
  exact ⟨by rw [HU.out];rfl,HW.out⟩
def BoxJ (w1:World) (g:Nat) (k:Int) (x:ByteArray) (ak:Option Addr) (nk ck:Nat) (wr:World):Prop:=
 Below (g+1) w1 wr∧wr.cell? ⟨g,0,none⟩=some (.int .i64 k)∧wr.cell? ⟨g,1,none⟩=some (.string x)∧wr.cell? ⟨g,2,none⟩=some (.slice ak nk ck)∧g+1≤wr.heap.size
theorem BoxJ.start {w:World} {k:Int} {x:ByteArray} {ak:Option Addr} {nk ck:Nat}:BoxJ (w.alloc (.cells (jCells k x ak nk ck) 53)) w.heap.size k x ak nk ck (w.alloc (.cells (jCells k x ak nk ck) 53)):=
 ⟨Below.refl _ _,by simp [go_sem],by simp [go_sem],by simp [go_sem],by simp⟩
theorem BoxJ.keep {w1:World} {g:Nat} {k:Int} {x:ByteArray} {ak:Option Addr} {nk ck:Nat} {wr w':World} (h:BoxJ w1 g k x ak nk ck wr) (hb:Below wr.heap.size wr w'):BoxJ w1 g k x ak nk ck w':=
 ⟨h.1.trans (hb.mono h.2.2.2.2),cell_below hb h.2.1,cell_below hb h.2.2.1,cell_below hb h.2.2.2.1,Nat.le_trans h.2.2.2.2 hb.size⟩
set_option maxRecDepth 100000 in
set_option maxHeartbeats 16000000 in
theorem rchk_step (d:Nat) (hof:ChkSaid 34 d):ChkSaid 34 (d+1):=by
 intro j hj S w c h hwb
 obtain ⟨k,t,m⟩:=j
 obtain ⟨x,ak,nk,ck,rfl,hxt,hxs,hkb,hml,hnk,hks⟩:=h
 have hxl:x.size=t.length:=by rw [← hxt,sl_len]
 have hwt:wtJ (.mk k t m)=2+t.length+wtM m:=rfl
 rw [hwt] at hj hwb
 have hnl:=isNil_len m
 rw [hml] at hnl
 have hml2:=wtM_len m
 rw [hml] at hml2
 have hkk:=Lib.hid (show checkJ (.mk k t m)=if k < 1∨7 < k∨(m.isNil=false∧k≠6∧k≠7)∨(t≠[]∧k≠4∧k≠5) then 1 else if k=6∧m.bare=false then 1 else if k=4∧(lexeme t=0∨300 < t.length) then 10 else if k=5∧wholeB t=false then 4 else checkM m by rw [checkJ])
 generalize checkJ (.mk k t m)=r at hkk
 have HOF:=Lib.hid hof
 have HKS:=Lib.hid hks
 have HXT:=Lib.hid hxt
 have HML:=Lib.hid hml
 have HNL:=Lib.hid hnl
 have hnk9:=hnk.1
 clear hof hks hxt hml hnl hwt hnk
 have hbox:Below w.heap.size w (w.alloc (.cells (jCells k x ak nk ck) 53)):=(Below.refl _ _).alloc (Nat.le_refl _) _
 have HBX:=Lib.hid hbox
 have HB0:=Lib.hid (BoxJ.start (w:=w) (k:=k) (x:=x) (ak:=ak) (nk:=nk) (ck:=ck))
 clear hbox
 obtain ⟨b4,hb4⟩:∃ b,b=(k == 4):=⟨_,rfl⟩
 by_cases hout:k < 1∨7 < k
 ·have HR:Hid (r=1):=by
   show _=_
   rw [hkk.out,if_pos]
   rcases hout with h|h
   ·exact .inl h
   ·exact .inr (.inl h)
  have d4:(k == 4)=false:=by simp;omega
  have d5:(k == 5)=false:=by simp;omega
  have d6:(k == 6)=false:=by simp;omega
  have d7:(k == 7)=false:=by simp;omega
  have h2:k < 1∨(1≤k∧7 < k):=by omega
  clear hkk hout hb4
  rcases h2 with h|⟨h,h'⟩
  all_goals
   go_enter Tryz.func34,Tryz.ntmps34
   go_wp2_with fail
   go_quiet (fail)
   go_wp2_with fail
   go_ret
   exact ⟨by rw [HR.out];rfl,HBX.out.trans (below_drewN _ _ _)⟩
 have hk:k=1∨k=2∨k=3∨k=4∨k=5∨k=6∨k=7:=by omega
 clear hout hkb hb4
 rcases hk with rfl|rfl|rfl|rfl|rfl|rfl|rfl
 ·skip
  by_cases hn0:0 < nk
  ·have HR:Hid (r=1):=by
    show _=_
    rw [hkk.out,if_pos (.inr (.inr (.inl ⟨by rw [HNL.out];simp;omega,by omega,by omega⟩)))]
   clear hkk
   go_enter Tryz.func34,Tryz.ntmps34
   go_wp2_with fail
   go_quiet (fail)
   go_wp2_with fail
   go_ret
   exact ⟨by rw [HR.out];rfl,HBX.out.trans (below_drewN _ _ _)⟩
  obtain rfl:nk=0:=by omega
  have hm0:m=.nil:=by have:=HML.out;cases m with
   | nil=>rfl
   | cons=>simp [M.len] at this
  subst hm0
  by_cases ht:t=[]
  case neg=>
   have HR:Hid (r=1):=by
    show _=_
    rw [hkk.out,if_pos (.inr (.inr (.inr ⟨ht,by omega,by omega⟩)))]
   have hx0:x.toList.isEmpty=false:=sl_ne (by rw [HXT.out];exact ht)
   clear hkk
   go_enter Tryz.func34,Tryz.ntmps34
   go_wp2_with fail
   go_quiet (fail)
   go_wp2_with fail
   go_ret
   exact ⟨by rw [HR.out];rfl,HBX.out.trans (below_drewN _ _ _)⟩
  subst ht
  obtain rfl:=sl_nil HXT.out
  have HR:Hid (r=0):=by
   show _=_
   rw [hkk.out]
   simp [M.isNil,M.bare,checkM]
  clear hkk
  go_enter Tryz.func34,Tryz.ntmps34
  go_wp2_with fail
  go_quiet (fail)
  go_wp2_with fail
  go_loopw [5] (fun i wr=>i=.int .i64 0∧BoxJ (w.alloc (.cells (jCells 1 ⟨#[]⟩ ak 0 ck) 53)) w.heap.size 1 ⟨#[]⟩ ak 0 ck wr) (fun _ _=>0)
  case atStart=>exact ⟨rfl,HB0.out.keep (below_drewN _ _ _)⟩
  case round=>
   obtain ⟨rfl,hbj⟩:=hrel
   obtain ⟨hbl,f0,f1,f2,hsz⟩:=hbj
   have HBJ:Hid (BoxJ (w.alloc (.cells (jCells 1 ⟨#[]⟩ ak 0 ck) 53)) w.heap.size 1 ⟨#[]⟩ ak 0 ck wr):=Lib.hid ⟨hbl,f0,f1,f2,hsz⟩
   have HBL:=Lib.hid hbl
   clear hbl
   go_wp2_with fail
   go_loopw [6] (fun i wx=>i=.int .i64 0∧BoxJ (w.alloc (.cells (jCells 1 ⟨#[]⟩ ak 0 ck) 53)) w.heap.size 1 ⟨#[]⟩ ak 0 ck wx) (fun _ _=>0)
   case atStart=>exact ⟨rfl,HBJ.out⟩
   case round=>
    clear f0 f1 f2 hsz HBL HBJ
    obtain ⟨rfl,hbj⟩:=hrel
    obtain ⟨hbl,f0,f1,f2,hsz⟩:=hbj
    have HBL:=Lib.hid hbl
    clear hbl
    go_wp2_with fail
    go_ret
    exact ⟨by rw [HR.out];rfl,HBX.out.trans (HBL.out.mono (by omega))⟩
 ·skip
  by_cases hn0:0 < nk
  ·have HR:Hid (r=1):=by
    show _=_
    rw [hkk.out,if_pos (.inr (.inr (.inl ⟨by rw [HNL.out];simp;omega,by omega,by omega⟩)))]
   clear hkk
   go_enter Tryz.func34,Tryz.ntmps34
   go_wp2_with fail
   go_quiet (fail)
   go_wp2_with fail
   go_ret
   exact ⟨by rw [HR.out];rfl,HBX.out.trans (below_drewN _ _ _)⟩
  obtain rfl:nk=0:=by omega
  have hm0:m=.nil:=by have:=HML.out;cases m with
   | nil=>rfl
   | cons=>simp [M.len] at this
  subst hm0
  by_cases ht:t=[]
  case neg=>
   have HR:Hid (r=1):=by
    show _=_
    rw [hkk.out,if_pos (.inr (.inr (.inr ⟨ht,by omega,by omega⟩)))]
   have hx0:x.toList.isEmpty=false:=sl_ne (by rw [HXT.out];exact ht)
   clear hkk
   go_enter Tryz.func34,Tryz.ntmps34
   go_wp2_with fail
   go_quiet (fail)
   go_wp2_with fail
   go_ret
   exact ⟨by rw [HR.out];rfl,HBX.out.trans (below_drewN _ _ _)⟩
  subst ht
  obtain rfl:=sl_nil HXT.out
  have HR:Hid (r=0):=by
   show _=_
   rw [hkk.out]
   simp [M.isNil,M.bare,checkM]
  clear hkk
  go_enter Tryz.func34,Tryz.ntmps34
  go_wp2_with fail
  go_quiet (fail)
  go_wp2_with fail
  go_loopw [5] (fun i wr=>i=.int .i64 0∧BoxJ (w.alloc (.cells (jCells 2 ⟨#[]⟩ ak 0 ck) 53)) w.heap.size 2 ⟨#[]⟩ ak 0 ck wr) (fun _ _=>0)
  case atStart=>exact ⟨rfl,HB0.out.keep (below_drewN _ _ _)⟩
  case round=>
   obtain ⟨rfl,hbj⟩:=hrel
   obtain ⟨hbl,f0,f1,f2,hsz⟩:=hbj
   have HBJ:Hid (BoxJ (w.alloc (.cells (jCells 2 ⟨#[]⟩ ak 0 ck) 53)) w.heap.size 2 ⟨#[]⟩ ak 0 ck wr):=Lib.hid ⟨hbl,f0,f1,f2,hsz⟩
   have HBL:=Lib.hid hbl
   clear hbl
   go_wp2_with fail
   go_loopw [6] (fun i wx=>i=.int .i64 0∧BoxJ (w.alloc (.cells (jCells 2 ⟨#[]⟩ ak 0 ck) 53)) w.heap.size 2 ⟨#[]⟩ ak 0 ck wx) (fun _ _=>0)
   case atStart=>exact ⟨rfl,HBJ.out⟩
   case round=>
    clear f0 f1 f2 hsz HBL HBJ
    obtain ⟨rfl,hbj⟩:=hrel
    obtain ⟨hbl,f0,f1,f2,hsz⟩:=hbj
    have HBL:=Lib.hid hbl
    clear hbl
    go_wp2_with fail
    go_ret
    exact ⟨by rw [HR.out];rfl,HBX.out.trans (HBL.out.mono (by omega))⟩
 ·skip
  by_cases hn0:0 < nk
  ·have HR:Hid (r=1):=by
    show _=_
    rw [hkk.out,if_pos (.inr (.inr (.inl ⟨by rw [HNL.out];simp;omega,by omega,by omega⟩)))]
   clear hkk
   go_enter Tryz.func34,Tryz.ntmps34
   go_wp2_with fail
   go_quiet (fail)
   go_wp2_with fail
   go_ret
   exact ⟨by rw [HR.out];rfl,HBX.out.trans (below_drewN _ _ _)⟩
  obtain rfl:nk=0:=by omega
  have hm0:m=.nil:=by have:=HML.out;cases m with
   | nil=>rfl
   | cons=>simp [M.len] at this
  subst hm0
  by_cases ht:t=[]
  case neg=>
   have HR:Hid (r=1):=by
    show _=_
    rw [hkk.out,if_pos (.inr (.inr (.inr ⟨ht,by omega,by omega⟩)))]
   have hx0:x.toList.isEmpty=false:=sl_ne (by rw [HXT.out];exact ht)
   clear hkk
   go_enter Tryz.func34,Tryz.ntmps34
   go_wp2_with fail
   go_quiet (fail)
   go_wp2_with fail
   go_ret
   exact ⟨by rw [HR.out];rfl,HBX.out.trans (below_drewN _ _ _)⟩
  subst ht
  obtain rfl:=sl_nil HXT.out
  have HR:Hid (r=0):=by
   show _=_
   rw [hkk.out]
   simp [M.isNil,M.bare,checkM]
  clear hkk
  go_enter Tryz.func34,Tryz.ntmps34
  go_wp2_with fail
  go_quiet (fail)
  go_wp2_with fail
  go_loopw [5] (fun i wr=>i=.int .i64 0∧BoxJ (w.alloc (.cells (jCells 3 ⟨#[]⟩ ak 0 ck) 53)) w.heap.size 3 ⟨#[]⟩ ak 0 ck wr) (fun _ _=>0)
  case atStart=>exact ⟨rfl,HB0.out.keep (below_drewN _ _ _)⟩
  case round=>
   obtain ⟨rfl,hbj⟩:=hrel
   obtain ⟨hbl,f0,f1,f2,hsz⟩:=hbj
   have HBJ:Hid (BoxJ (w.alloc (.cells (jCells 3 ⟨#[]⟩ ak 0 ck) 53)) w.heap.size 3 ⟨#[]⟩ ak 0 ck wr):=Lib.hid ⟨hbl,f0,f1,f2,hsz⟩
   have HBL:=Lib.hid hbl
   clear hbl
   go_wp2_with fail
   go_loopw [6] (fun i wx=>i=.int .i64 0∧BoxJ (w.alloc (.cells (jCells 3 ⟨#[]⟩ ak 0 ck) 53)) w.heap.size 3 ⟨#[]⟩ ak 0 ck wx) (fun _ _=>0)
   case atStart=>exact ⟨rfl,HBJ.out⟩
   case round=>
    clear f0 f1 f2 hsz HBL HBJ
    obtain ⟨rfl,hbj⟩:=hrel
    obtain ⟨hbl,f0,f1,f2,hsz⟩:=hbj
    have HBL:=Lib.hid hbl
    clear hbl
    go_wp2_with fail
    go_ret
    exact ⟨by rw [HR.out];rfl,HBX.out.trans (HBL.out.mono (by omega))⟩
 ·skip
  by_cases hn0:0 < nk
  ·have HR:Hid (r=1):=by
    show _=_
    rw [hkk.out,if_pos (.inr (.inr (.inl ⟨by rw [HNL.out];simp;omega,by omega,by omega⟩)))]
   clear hkk
   go_enter Tryz.func34,Tryz.ntmps34
   go_wp2_with fail
   go_quiet (fail)
   go_wp2_with fail
   go_ret
   exact ⟨by rw [HR.out];rfl,HBX.out.trans (below_drewN _ _ _)⟩
  obtain rfl:nk=0:=by omega
  have hm0:m=.nil:=by have:=HML.out;cases m with
   | nil=>rfl
   | cons=>simp [M.len] at this
  subst hm0
  rcases Bool.eq_false_or_eq_true (x.toList.isEmpty) with he|he
  all_goals
   have CL:=fun W=>Lib.hid (rlexeme_calls x (by omega) W)
   rw [HXT.out] at CL
   obtain ⟨lx,hlx⟩:∃ lx,lx=lexeme t:=⟨_,rfl⟩
   rw [← hlx] at CL
   have hres:r=if lx=0∨300 < x.size then 10 else 0:=by
    rw [hkk.out,hlx,hxl]
    by_cases h:lexeme t=0∨300 < t.length
    ·simp [M.isNil,M.bare,checkM,h]
    ·simp [M.isNil,M.bare,checkM,h]
   clear hlx
   by_cases c1:lx=0
   ·have HR:Hid (r=10):=by show _=_;rw [hres,if_pos (.inl c1)]
    subst c1
    clear hkk hres
    go_enter Tryz.func34,Tryz.ntmps34
    go_wp2_with fail
    go_quiet (fail)
    go_wp2_with fail
    go_loopw [5] (fun i wr=>i=.int .i64 0∧BoxJ (w.alloc (.cells (jCells 4 x ak 0 ck) 53)) w.heap.size 4 x ak 0 ck wr) (fun _ _=>0)
    case atStart=>exact ⟨rfl,HB0.out.keep (below_drewN _ _ _)⟩
    case round=>
     obtain ⟨rfl,hbj⟩:=hrel
     obtain ⟨hbl,f0,f1,f2,hsz⟩:=hbj
     have HBJ:Hid (BoxJ (w.alloc (.cells (jCells 4 x ak 0 ck) 53)) w.heap.size 4 x ak 0 ck wr):=Lib.hid ⟨hbl,f0,f1,f2,hsz⟩
     have HBL:=Lib.hid hbl
     clear hbl
     go_wp2_with fail
     refine (CL _).out.mono ?_
     rintro e w5 ⟨rfl,hb5⟩
     obtain ⟨hbl2,g0,g1,g2,hsz5⟩:=HBJ.out.keep hb5
     have HBJ5:Hid (BoxJ (w.alloc (.cells (jCells 4 x ak 0 ck) 53)) w.heap.size 4 x ak 0 ck w5):=Lib.hid ⟨hbl2,g0,g1,g2,hsz5⟩
     have HBL5:=Lib.hid hbl2
     clear hb5 hbl2
     go_wp2_with fail
     go_ret
     exact ⟨by rw [HR.out];rfl,HBX.out.trans (HBL5.out.mono (by omega))⟩
   by_cases c2:300 < x.size
   ·have HR:Hid (r=10):=by show _=_;rw [hres,if_pos (.inr c2)]
    have t1:((lx:Int) == 0)=false:=by simp;omega
    have t2:decide ((300:Int) < x.size)=true:=by simp;omega
    clear hkk hres
    go_enter Tryz.func34,Tryz.ntmps34
    go_wp2_with fail
    go_quiet (fail)
    go_wp2_with fail
    go_loopw [5] (fun i wr=>i=.int .i64 0∧BoxJ (w.alloc (.cells (jCells 4 x ak 0 ck) 53)) w.heap.size 4 x ak 0 ck wr) (fun _ _=>0)
    case atStart=>exact ⟨rfl,HB0.out.keep (below_drewN _ _ _)⟩
    case round=>
     obtain ⟨rfl,hbj⟩:=hrel
     obtain ⟨hbl,f0,f1,f2,hsz⟩:=hbj
     have HBJ:Hid (BoxJ (w.alloc (.cells (jCells 4 x ak 0 ck) 53)) w.heap.size 4 x ak 0 ck wr):=Lib.hid ⟨hbl,f0,f1,f2,hsz⟩
     have HBL:=Lib.hid hbl
     clear hbl
     go_wp2_with fail
     refine (CL _).out.mono ?_
     rintro e w5 ⟨rfl,hb5⟩
     obtain ⟨hbl2,g0,g1,g2,hsz5⟩:=HBJ.out.keep hb5
     have HBJ5:Hid (BoxJ (w.alloc (.cells (jCells 4 x ak 0 ck) 53)) w.heap.size 4 x ak 0 ck w5):=Lib.hid ⟨hbl2,g0,g1,g2,hsz5⟩
     have HBL5:=Lib.hid hbl2
     clear hb5 hbl2
     go_wp2_with fail
     go_ret
     exact ⟨by rw [HR.out];rfl,HBX.out.trans (HBL5.out.mono (by omega))⟩
   have HR:Hid (r=0):=by show _=_;rw [hres,if_neg (by rintro (h | h);exact c1 h;exact c2 h)]
   have t1:((lx:Int) == 0)=false:=by simp;omega
   have t2:decide ((300:Int) < x.size)=false:=by simp;omega
   clear hkk hres
   go_enter Tryz.func34,Tryz.ntmps34
   go_wp2_with fail
   go_quiet (fail)
   go_wp2_with fail
   go_loopw [5] (fun i wr=>i=.int .i64 0∧BoxJ (w.alloc (.cells (jCells 4 x ak 0 ck) 53)) w.heap.size 4 x ak 0 ck wr) (fun _ _=>0)
   case atStart=>exact ⟨rfl,HB0.out.keep (below_drewN _ _ _)⟩
   case round=>
    obtain ⟨rfl,hbj⟩:=hrel
    obtain ⟨hbl,f0,f1,f2,hsz⟩:=hbj
    have HBJ:Hid (BoxJ (w.alloc (.cells (jCells 4 x ak 0 ck) 53)) w.heap.size 4 x ak 0 ck wr):=Lib.hid ⟨hbl,f0,f1,f2,hsz⟩
    have HBL:=Lib.hid hbl
    clear hbl
    go_wp2_with fail
    refine (CL _).out.mono ?_
    rintro e w5 ⟨rfl,hb5⟩
    obtain ⟨hbl2,g0,g1,g2,hsz5⟩:=HBJ.out.keep hb5
    have HBJ5:Hid (BoxJ (w.alloc (.cells (jCells 4 x ak 0 ck) 53)) w.heap.size 4 x ak 0 ck w5):=Lib.hid ⟨hbl2,g0,g1,g2,hsz5⟩
    have HBL5:=Lib.hid hbl2
    clear hb5 hbl2
    go_wp2_with fail
    go_loopw [6] (fun i wx=>i=.int .i64 0∧BoxJ (w.alloc (.cells (jCells 4 x ak 0 ck) 53)) w.heap.size 4 x ak 0 ck wx) (fun _ _=>0)
    case atStart=>exact ⟨rfl,HBJ5.out⟩
    case round=>
     clear f0 f1 f2 hsz HBL HBJ g0 g1 g2 hsz5 HBL5 HBJ5
     obtain ⟨rfl,hbj⟩:=hrel
     obtain ⟨hbl,f0,f1,f2,hsz⟩:=hbj
     have HBL:=Lib.hid hbl
     clear hbl
     go_wp2_with fail
     go_ret
     exact ⟨by rw [HR.out];rfl,HBX.out.trans (HBL.out.mono (by omega))⟩
 ·skip
  by_cases hn0:0 < nk
  ·have HR:Hid (r=1):=by
    show _=_
    rw [hkk.out,if_pos (.inr (.inr (.inl ⟨by rw [HNL.out];simp;omega,by omega,by omega⟩)))]
   clear hkk
   go_enter Tryz.func34,Tryz.ntmps34
   go_wp2_with fail
   go_quiet (fail)
   go_wp2_with fail
   go_ret
   exact ⟨by rw [HR.out];rfl,HBX.out.trans (below_drewN _ _ _)⟩
  obtain rfl:nk=0:=by omega
  have hm0:m=.nil:=by have:=HML.out;cases m with
   | nil=>rfl
   | cons=>simp [M.len] at this
  subst hm0
  rcases Bool.eq_false_or_eq_true (x.toList.isEmpty) with he|he
  all_goals
   have CL:=fun W=>Lib.hid (rwhole_calls x (by omega) W)
   rw [HXT.out,hxl] at CL
   have hres:r=if wholeTo t=t.length then 0 else 4:=by
    rw [hkk.out]
    by_cases h:wholeTo t=t.length
    ·simp [M.isNil,M.bare,checkM,wholeB,h]
    ·simp [M.isNil,M.bare,checkM,wholeB,h]
   by_cases c1:wholeTo t=t.length
   ·have HR:Hid (r=0):=by show _=_;rw [hres,if_pos c1]
    rw [show (wholeTo t == t.length)=true by simpa using c1] at CL
    clear hkk hres
    go_enter Tryz.func34,Tryz.ntmps34
    go_wp2_with fail
    go_quiet (fail)
    go_wp2_with fail
    go_loopw [5] (fun i wr=>i=.int .i64 0∧BoxJ (w.alloc (.cells (jCells 5 x ak 0 ck) 53)) w.heap.size 5 x ak 0 ck wr) (fun _ _=>0)
    case atStart=>exact ⟨rfl,HB0.out.keep (below_drewN _ _ _)⟩
    case round=>
     obtain ⟨rfl,hbj⟩:=hrel
     obtain ⟨hbl,f0,f1,f2,hsz⟩:=hbj
     have HBJ:Hid (BoxJ (w.alloc (.cells (jCells 5 x ak 0 ck) 53)) w.heap.size 5 x ak 0 ck wr):=Lib.hid ⟨hbl,f0,f1,f2,hsz⟩
     have HBL:=Lib.hid hbl
     clear hbl
     go_wp2_with fail
     refine (CL _).out.mono ?_
     rintro e w5 ⟨rfl,hb5⟩
     obtain ⟨hbl2,g0,g1,g2,hsz5⟩:=HBJ.out.keep hb5
     have HBJ5:Hid (BoxJ (w.alloc (.cells (jCells 5 x ak 0 ck) 53)) w.heap.size 5 x ak 0 ck w5):=Lib.hid ⟨hbl2,g0,g1,g2,hsz5⟩
     have HBL5:=Lib.hid hbl2
     clear hb5 hbl2
     go_wp2_with fail
     go_loopw [6] (fun i wx=>i=.int .i64 0∧BoxJ (w.alloc (.cells (jCells 5 x ak 0 ck) 53)) w.heap.size 5 x ak 0 ck wx) (fun _ _=>0)
     case atStart=>exact ⟨rfl,HBJ5.out⟩
     case round=>
      clear f0 f1 f2 hsz HBL HBJ g0 g1 g2 hsz5 HBL5 HBJ5
      obtain ⟨rfl,hbj⟩:=hrel
      obtain ⟨hbl,f0,f1,f2,hsz⟩:=hbj
      have HBL:=Lib.hid hbl
      clear hbl
      go_wp2_with fail
      go_ret
      exact ⟨by rw [HR.out];rfl,HBX.out.trans (HBL.out.mono (by omega))⟩
   have HR:Hid (r=4):=by show _=_;rw [hres,if_neg c1]
   rw [show (wholeTo t == t.length)=false by simpa using c1] at CL
   clear hkk hres
   go_enter Tryz.func34,Tryz.ntmps34
   go_wp2_with fail
   go_quiet (fail)
   go_wp2_with fail
   go_loopw [5] (fun i wr=>i=.int .i64 0∧BoxJ (w.alloc (.cells (jCells 5 x ak 0 ck) 53)) w.heap.size 5 x ak 0 ck wr) (fun _ _=>0)
   case atStart=>exact ⟨rfl,HB0.out.keep (below_drewN _ _ _)⟩
   case round=>
    obtain ⟨rfl,hbj⟩:=hrel
    obtain ⟨hbl,f0,f1,f2,hsz⟩:=hbj
    have HBJ:Hid (BoxJ (w.alloc (.cells (jCells 5 x ak 0 ck) 53)) w.heap.size 5 x ak 0 ck wr):=Lib.hid ⟨hbl,f0,f1,f2,hsz⟩
    have HBL:=Lib.hid hbl
    clear hbl
    go_wp2_with fail
    refine (CL _).out.mono ?_
    rintro e w5 ⟨rfl,hb5⟩
    obtain ⟨hbl2,g0,g1,g2,hsz5⟩:=HBJ.out.keep hb5
    have HBJ5:Hid (BoxJ (w.alloc (.cells (jCells 5 x ak 0 ck) 53)) w.heap.size 5 x ak 0 ck w5):=Lib.hid ⟨hbl2,g0,g1,g2,hsz5⟩
    have HBL5:=Lib.hid hbl2
    clear hb5 hbl2
    go_wp2_with fail
    go_ret
    exact ⟨by rw [HR.out];rfl,HBX.out.trans (HBL5.out.mono (by omega))⟩
 ·skip
  by_cases ht:t=[]
  case neg=>
   have HR:Hid (r=1):=by
    show _=_
    rw [hkk.out,if_pos (.inr (.inr (.inr ⟨ht,by omega,by omega⟩)))]
   have hx0:x.toList.isEmpty=false:=sl_ne (by rw [HXT.out];exact ht)
   clear hkk
   go_enter Tryz.func34,Tryz.ntmps34
   go_wp2_with fail
   go_quiet (fail)
   go_wp2_with fail
   go_ret
   exact ⟨by rw [HR.out];rfl,HBX.out.trans (below_drewN _ _ _)⟩
  subst ht
  obtain rfl:=sl_nil HXT.out
  have hres:r=if m.bare=false then 1 else checkM m:=by
   rw [hkk.out]
   by_cases h:m.bare=false
   ·simp [h]
   ·simp [h]
  have HRES:=Lib.hid hres
  clear hkk hres
  go_enter Tryz.func34,Tryz.ntmps34
  go_wp2_with fail
  go_quiet (fail)
  go_wp2_with fail
  go_loopw [5] (fun i wr=>∃ j:Nat,i=.int .i64 j∧j≤nk∧Hid (m.bare=(m.drop j).bare)∧BoxJ (w.alloc (.cells (jCells 6 ⟨#[]⟩ ak nk ck) 53)) w.heap.size 6 ⟨#[]⟩ ak nk ck wr) (fun i _=>nk - (intOf i).toNat)
  case atStart=>exact ⟨0,rfl,Nat.zero_le _,Lib.hid rfl,HB0.out.keep (below_drewN _ _ _)⟩
  case round=>
   obtain ⟨j,rfl,hjm,hrb,hbl,f0,f1,f2,hsz⟩:=hrel
   have HBJ:Hid (BoxJ (w.alloc (.cells (jCells 6 ⟨#[]⟩ ak nk ck) 53)) w.heap.size 6 ⟨#[]⟩ ak nk ck wr):=Lib.hid ⟨hbl,f0,f1,f2,hsz⟩
   have hBW:=HBX.out.trans (hbl.mono (by omega))
   have HKW:=Lib.hid (HKS.out.below hBW)
   have HBW:=Lib.hid hBW
   clear hbl hBW
   by_cases hlt:j < nk
   ·obtain ⟨⟨n,vv⟩,hx⟩:=M.get_some m j (by rw [HML.out];exact hlt)
    obtain ⟨b0,o0,y,k',t',x',m',ak',nk',ck',rfl,rfl,e1,e2,e3,e4,e5,e6,e7,g0,g1,g2,g3⟩:=(HKW.out.at hx).cells
    have hj0:(0:Int)≤(j:Int):=by omega
    have hj1:(j:Int) < (nk:Int):=by omega
    have hbg:=bare_get m j n _ hx
    by_cases hn:n=[]
    ·have HNB:Hid (m.bare=(m.drop (j+1)).bare):=by
      show _=_
      rw [hrb.out,hbg,hn]
      simp
     obtain rfl:=sl_nil (e1.trans hn)
     clear hx hbg e1 e3 e4 e7
     go_wp2_with fail
     go_roundw
     case rel=>exact ⟨j+1,by simp,by omega,HNB,HBJ.out⟩
     case measure=>simp [intOf];omega
    ·have HR:Hid (r=1):=by
      show _=_
      rw [HRES.out,if_pos]
      rw [hrb.out,hbg]
      cases n with
      | nil=>exact absurd rfl hn
      | cons=>rfl
     have hy0:y.toList.isEmpty=false:=sl_ne (by rw [e1];exact hn)
     clear hx hbg e1 e3 e4 e7
     go_wp2_with fail
     go_ret
     exact ⟨by rw [HR.out];rfl,HBW.out⟩
   have hbare:m.bare=true:=by
    rw [hrb.out,M.drop_len m j (by rw [HML.out];omega)]
    rfl
   have HRM:Hid (r=checkM m):=by
    show _=_
    rw [HRES.out,hbare]
    simp
   clear hrb hbare
   go_wp2_with fail
   go_loopw [6] (fun i wx=>∃ j:Nat,i=.int .i64 j∧j≤nk∧Hid (checkM m=checkM (m.drop j))∧BoxJ (w.alloc (.cells (jCells 6 ⟨#[]⟩ ak nk ck) 53)) w.heap.size 6 ⟨#[]⟩ ak nk ck wx) (fun i _=>nk - (intOf i).toNat)
   case atStart=>exact ⟨0,rfl,Nat.zero_le _,Lib.hid rfl,HBJ.out⟩
   case round=>
    clear f0 f1 f2 hsz HBJ
    obtain ⟨j,rfl,hjm,hcr,hbl,f0,f1,f2,hsz⟩:=hrel
    have HBJ:Hid (BoxJ (w.alloc (.cells (jCells 6 ⟨#[]⟩ ak nk ck) 53)) w.heap.size 6 ⟨#[]⟩ ak nk ck _):=Lib.hid ⟨hbl,f0,f1,f2,hsz⟩
    have hBW:=HBX.out.trans (hbl.mono (by omega))
    have HKW:=Lib.hid (HKS.out.below hBW)
    have HBW:=Lib.hid hBW
    clear hbl hBW
    by_cases hlt:j < nk
    ·obtain ⟨⟨n,vv⟩,hx⟩:=M.get_some m j (by rw [HML.out];exact hlt)
     have hwg:=wtM_get m j n vv hx
     have hcd:=checkM_drop m j n vv hx
     obtain ⟨b0,o0,y,k',t',x',m',ak',nk',ck',rfl,rfl,e1,e2,e3,e4,e5,e6,e7,g0,g1,g2,g3⟩:=(HKW.out.at hx).cells
     have hyl:y.size=n.length:=by rw [← e1,sl_len]
     have hj0:(0:Int)≤(j:Int):=by omega
     have hj1:(j:Int) < (nk:Int):=by omega
     have CI:=fun W=>Lib.hid (rwhole_calls y (by omega) W)
     rw [e1,hyl] at CI
     have HC:=Lib.hid (fun S W c=>HOF.out _ (show wtJ (.mk k' t' m')≤d by omega) S W c)
     have E7:=Lib.hid e7
     have hwk:wtJ (.mk k' t' m')≤100000:=by omega
     obtain ⟨q,hq⟩:∃ q,q=checkJ (.mk k' t' m'):=⟨_,rfl⟩
     rw [← hq] at HC hcd
     by_cases hw:wholeTo n=n.length
     case neg=>
      rw [show (wholeTo n == n.length)=false by simpa using hw] at CI
      have HR:Hid (r=4):=by
       show _=_
       rw [HRM.out,hcr.out,hcd,if_pos (by unfold wholeB;simpa using hw)]
      clear hx hwg hcd hw e1 e3 e4 e7 hq
      go_wp2_with fail
      refine (CI _).out.mono ?_
      rintro e w5 ⟨rfl,hb5⟩
      have HL:=Lib.hid (HBJ.out.keep hb5)
      clear hb5
      go_wp2_with fail
      go_ret
      exact ⟨by rw [HR.out];rfl,HBX.out.trans (HL.out.1.mono (by omega))⟩
     rw [show (wholeTo n == n.length)=true by simpa using hw] at CI
     rw [if_neg (by unfold wholeB;simp [hw])] at hcd
     by_cases hq0:q=0
     ·subst hq0
      have HN:Hid (checkM m=checkM (m.drop (j+1))):=by
       show _=_
       rw [hcr.out,hcd]
       simp
      clear hx hwg hcd hw e1 e3 e4 e7 hq
      go_wp2_with fail
      refine (CI _).out.mono ?_
      rintro e w5 ⟨rfl,hb5⟩
      obtain ⟨_,u0,u1,u2,hsz5⟩:=HBJ.out.keep hb5
      have HL:=Lib.hid (HBJ.out.keep hb5)
      have v0:=cell_below hb5 g0
      have v1:=cell_below hb5 g1
      have v2:=cell_below hb5 g2
      have v3:=cell_below hb5 g3
      have HK5:=Lib.hid hb5
      clear hb5 g0 g1 g2 g3 f0 f1 f2
      go_wp2_with fail
      refine (HC.out _ _ _ (E7.out.below HK5.out) hwk).mono ?_
      rintro e w6 ⟨rfl,hb6⟩
      have HL6:=Lib.hid (HL.out.keep hb6)
      clear hb6
      go_wp2_with fail
      go_roundw
      case rel=>exact ⟨j+1,by simp,by omega,HN,HL6.out⟩
      case measure=>simp [intOf];omega
     ·have HR:Hid (r=q):=by
       show _=_
       rw [HRM.out,hcr.out,hcd,if_pos hq0]
      have hq1:((q:Int) == 0)=false:=by simp;omega
      have hq2:((q:Int) != 0)=true:=by simp;omega
      clear hx hwg hcd hw e1 e3 e4 e7 hq
      go_wp2_with fail
      refine (CI _).out.mono ?_
      rintro e w5 ⟨rfl,hb5⟩
      obtain ⟨_,u0,u1,u2,hsz5⟩:=HBJ.out.keep hb5
      have HL:=Lib.hid (HBJ.out.keep hb5)
      have v0:=cell_below hb5 g0
      have v1:=cell_below hb5 g1
      have v2:=cell_below hb5 g2
      have v3:=cell_below hb5 g3
      have HK5:=Lib.hid hb5
      clear hb5 g0 g1 g2 g3 f0 f1 f2
      go_wp2_with fail
      refine (HC.out _ _ _ (E7.out.below HK5.out) hwk).mono ?_
      rintro e w6 ⟨rfl,hb6⟩
      have HL6:=Lib.hid (HL.out.keep hb6)
      clear hb6
      go_wp2_with fail
      go_ret
      exact ⟨by rw [HR.out];rfl,HBX.out.trans (HL6.out.1.mono (by omega))⟩
    ·have HR:Hid (r=0):=by
      show _=_
      rw [HRM.out,hcr.out,M.drop_len m j (by rw [HML.out];omega)]
      rfl
     go_wp2_with fail
     go_ret
     exact ⟨by rw [HR.out];rfl,HBW.out⟩
 ·skip
  by_cases ht:t=[]
  case neg=>
   have HR:Hid (r=1):=by
    show _=_
    rw [hkk.out,if_pos (.inr (.inr (.inr ⟨ht,by omega,by omega⟩)))]
   have hx0:x.toList.isEmpty=false:=sl_ne (by rw [HXT.out];exact ht)
   clear hkk
   go_enter Tryz.func34,Tryz.ntmps34
   go_wp2_with fail
   go_quiet (fail)
   go_wp2_with fail
   go_ret
   exact ⟨by rw [HR.out];rfl,HBX.out.trans (below_drewN _ _ _)⟩
  subst ht
  obtain rfl:=sl_nil HXT.out
  have HRES:Hid (r=checkM m):=by
   show _=_
   rw [hkk.out]
   simp
  clear hkk
  go_enter Tryz.func34,Tryz.ntmps34
  go_wp2_with fail
  go_quiet (fail)
  go_wp2_with fail
  go_loopw [5] (fun i wr=>i=.int .i64 0∧BoxJ (w.alloc (.cells (jCells 7 ⟨#[]⟩ ak nk ck) 53)) w.heap.size 7 ⟨#[]⟩ ak nk ck wr) (fun _ _=>0)
  case atStart=>exact ⟨rfl,HB0.out.keep (below_drewN _ _ _)⟩
  case round=>
   obtain ⟨rfl,hbl,f0,f1,f2,hsz⟩:=hrel
   have HBJ:Hid (BoxJ (w.alloc (.cells (jCells 7 ⟨#[]⟩ ak nk ck) 53)) w.heap.size 7 ⟨#[]⟩ ak nk ck wr):=Lib.hid ⟨hbl,f0,f1,f2,hsz⟩
   have HRM:=HRES
   clear hbl
   rcases Nat.eq_zero_or_pos nk with h0|hz7
   ·subst h0
    have hm0:m=.nil:=by have:=HML.out;cases m with
     | nil=>rfl
     | cons=>simp [M.len] at this
    subst hm0
    have HR:Hid (r=0):=HRM.out
    go_wp2_with fail
    go_loopw [6] (fun i wx=>i=.int .i64 0∧BoxJ (w.alloc (.cells (jCells 7 ⟨#[]⟩ ak 0 ck) 53)) w.heap.size 7 ⟨#[]⟩ ak 0 ck wx) (fun _ _=>0)
    case atStart=>exact ⟨rfl,HBJ.out⟩
    case round=>
     clear f0 f1 f2 hsz HBJ
     obtain ⟨rfl,hbj⟩:=hrel
     obtain ⟨hbl,f0,f1,f2,hsz⟩:=hbj
     have HBL:=Lib.hid hbl
     clear hbl
     go_wp2_with fail
     go_ret
     exact ⟨by rw [HR.out];rfl,HBX.out.trans (HBL.out.mono (by omega))⟩
   go_wp2_with fail
   go_loopw [6] (fun i wx=>∃ j:Nat,i=.int .i64 j∧j≤nk∧Hid (checkM m=checkM (m.drop j))∧BoxJ (w.alloc (.cells (jCells 7 ⟨#[]⟩ ak nk ck) 53)) w.heap.size 7 ⟨#[]⟩ ak nk ck wx) (fun i _=>nk - (intOf i).toNat)
   case atStart=>exact ⟨0,rfl,Nat.zero_le _,Lib.hid rfl,HBJ.out⟩
   case round=>
    clear f0 f1 f2 hsz HBJ
    obtain ⟨j,rfl,hjm,hcr,hbl,f0,f1,f2,hsz⟩:=hrel
    have HBJ:Hid (BoxJ (w.alloc (.cells (jCells 7 ⟨#[]⟩ ak nk ck) 53)) w.heap.size 7 ⟨#[]⟩ ak nk ck _):=Lib.hid ⟨hbl,f0,f1,f2,hsz⟩
    have hBW:=HBX.out.trans (hbl.mono (by omega))
    have HKW:=Lib.hid (HKS.out.below hBW)
    have HBW:=Lib.hid hBW
    clear hbl hBW
    by_cases hlt:j < nk
    ·obtain ⟨⟨n,vv⟩,hx⟩:=M.get_some m j (by rw [HML.out];exact hlt)
     have hwg:=wtM_get m j n vv hx
     have hcd:=checkM_drop m j n vv hx
     obtain ⟨b0,o0,y,k',t',x',m',ak',nk',ck',rfl,rfl,e1,e2,e3,e4,e5,e6,e7,g0,g1,g2,g3⟩:=(HKW.out.at hx).cells
     have hyl:y.size=n.length:=by rw [← e1,sl_len]
     have hj0:(0:Int)≤(j:Int):=by omega
     have hj1:(j:Int) < (nk:Int):=by omega
     have CI:=fun W=>Lib.hid (rwhole_calls y (by omega) W)
     rw [e1,hyl] at CI
     have HC:=Lib.hid (fun S W c=>HOF.out _ (show wtJ (.mk k' t' m')≤d by omega) S W c)
     have E7:=Lib.hid e7
     have hwk:wtJ (.mk k' t' m')≤100000:=by omega
     obtain ⟨q,hq⟩:∃ q,q=checkJ (.mk k' t' m'):=⟨_,rfl⟩
     rw [← hq] at HC hcd
     by_cases hw:wholeTo n=n.length
     case neg=>
      rw [show (wholeTo n == n.length)=false by simpa using hw] at CI
      have HR:Hid (r=4):=by
       show _=_
       rw [HRM.out,hcr.out,hcd,if_pos (by unfold wholeB;simpa using hw)]
      clear hx hwg hcd hw e1 e3 e4 e7 hq
      go_wp2_with fail
      refine (CI _).out.mono ?_
      rintro e w5 ⟨rfl,hb5⟩
      have HL:=Lib.hid (HBJ.out.keep hb5)
      clear hb5
      go_wp2_with fail
      go_ret
      exact ⟨by rw [HR.out];rfl,HBX.out.trans (HL.out.1.mono (by omega))⟩
     rw [show (wholeTo n == n.length)=true by simpa using hw] at CI
     rw [if_neg (by unfold wholeB;simp [hw])] at hcd
     by_cases hq0:q=0
     ·subst hq0
      have HN:Hid (checkM m=checkM (m.drop (j+1))):=by
       show _=_
       rw [hcr.out,hcd]
       simp
      clear hx hwg hcd hw e1 e3 e4 e7 hq
      go_wp2_with fail
      refine (CI _).out.mono ?_
      rintro e w5 ⟨rfl,hb5⟩
      obtain ⟨_,u0,u1,u2,hsz5⟩:=HBJ.out.keep hb5
      have HL:=Lib.hid (HBJ.out.keep hb5)
      have v0:=cell_below hb5 g0
      have v1:=cell_below hb5 g1
      have v2:=cell_below hb5 g2
      have v3:=cell_below hb5 g3
      have HK5:=Lib.hid hb5
      clear hb5 g0 g1 g2 g3 f0 f1 f2
      go_wp2_with fail
      refine (HC.out _ _ _ (E7.out.below HK5.out) hwk).mono ?_
      rintro e w6 ⟨rfl,hb6⟩
      have HL6:=Lib.hid (HL.out.keep hb6)
      clear hb6
      go_wp2_with fail
      go_roundw
      case rel=>exact ⟨j+1,by simp,by omega,HN,HL6.out⟩
      case measure=>simp [intOf];omega
     ·have HR:Hid (r=q):=by
       show _=_
       rw [HRM.out,hcr.out,hcd,if_pos hq0]
      have hq1:((q:Int) == 0)=false:=by simp;omega
      have hq2:((q:Int) != 0)=true:=by simp;omega
      clear hx hwg hcd hw e1 e3 e4 e7 hq
      go_wp2_with fail
      refine (CI _).out.mono ?_
      rintro e w5 ⟨rfl,hb5⟩
      obtain ⟨_,u0,u1,u2,hsz5⟩:=HBJ.out.keep hb5
      have HL:=Lib.hid (HBJ.out.keep hb5)
      have v0:=cell_below hb5 g0
      have v1:=cell_below hb5 g1
      have v2:=cell_below hb5 g2
      have v3:=cell_below hb5 g3
      have HK5:=Lib.hid hb5
      clear hb5 g0 g1 g2 g3 f0 f1 f2
      go_wp2_with fail
      refine (HC.out _ _ _ (E7.out.below HK5.out) hwk).mono ?_
      rintro e w6 ⟨rfl,hb6⟩
      have HL6:=Lib.hid (HL.out.keep hb6)
      clear hb6
      go_wp2_with fail
      go_ret
      exact ⟨by rw [HR.out];rfl,HBX.out.trans (HL6.out.1.mono (by omega))⟩
    ·have HR:Hid (r=0):=by
      show _=_
      rw [HRM.out,hcr.out,M.drop_len m j (by rw [HML.out];omega)]
      rfl
     go_wp2_with fail
     go_ret
     exact ⟨by rw [HR.out];rfl,HBW.out⟩
theorem rchk_all:∀ d,ChkSaid 34 d
 | 0=>fun j hj=>by cases j;simp [wtJ] at hj
 | d+1=>rchk_step d (rchk_all d)
end Go.Proofs.YtmooaepbdmengaaGreatDoor
