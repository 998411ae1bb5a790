/- Parts of the proof of SniffWritten: LexI, LexJ, LexK, LexN, LexO, CbP, CbL, CbM0, CbF, CbO, CbQ, CbM1, CbM2, CbM3, CbE. -/
import Derived.Test.YtmooaepbdmengaaGreatDoorZ02
import Derived.Test.YtmooaepbdmengaaGreatDoorZ03
import Derived.Test.YtmooaepbdmengaaGreatDoorZ05
import Derived.Test.YtmooaepbdmengaaGreatDoorZ01
import Derived.Test.YtmooaepbdmengaaGreatDoorZ06
import Derived.Deep.CutRange
import Derived.Deep.RegionHeld3
namespace Go.Proofs.YtmooaepbdmengaaGreatDoor
open Go.RowKit
set_option linter.unusedVariables false
set_option linter.unusedSimpArgs false
theorem toList_sl (s:ByteArray):s.toList=sl s:=by rw [ByteArray.toList_eq];rfl
end Go.Proofs.YtmooaepbdmengaaGreatDoor
namespace Go.Proofs.YtmooaepbdmengaaGreatDoor
set_option linter.unusedVariables false
set_option linter.unusedSimpArgs false
def needN (n:Nat):Nat:=if n < 24 then 0 else if n < 256 then 1 else if n < 65536 then 2 else if n < 4294967296 then 4 else 8
def codeN (n:Nat):Nat:=if n < 24 then n else if n < 256 then 24 else if n < 65536 then 25 else if n < 4294967296 then 26 else 27
def headB (m n:Nat):List UInt8:=UInt8.ofNat (32 * m+codeN n)::(leBytes (needN n) n).reverse
theorem headB_len (m n:Nat):(headB m n).length=1+needN n:=by simp [headB,leBytes_length];omega
theorem needN_le (n:Nat):needN n≤8:=by unfold needN;(repeat' split)<;>omega
theorem codeN_le (n:Nat):codeN n≤27:=by unfold codeN;(repeat' split)<;>omega
def fieldsB (k:Int) (n bl tl kl:Nat):Bool:=
 (if k=6 then kl % 2 == 0 else if k=7 then kl == 1 else if k=8 then decide (20≤n∧n≤23) else true) &&
 (if k=1∨k=2∨k=9∨k=7∨k=8 then true else n == 0) && (if k=3 then true else bl == 0) && (if k=4 then true else tl == 0) && (if k=5∨k=6∨k=7 then true else kl == 0)
mutual
def errI:I→Nat
 | .mk k n bs t f=>if k < 1∨9 < k then 5 else if fieldsB k n bs.length t.size f.len=false then 1 else if (wholeTo (sl t) == t.size)=false then 4 else errIs f
def errIs:IL→Nat
 | .nil=>0
 | .cons x r=>if errI x≠0 then errI x else errIs r
end
mutual
def layI:I→List UInt8
  | .mk k n bs t f=>
    (if k=1 then headB 0 n else if k=2 then headB 1 n else if k=3 then headB 2 bs.length++bs else if k=4 then headB 3 t.size++sl t else if k=5 then headB 4 f.len else if k=6 then headB 5 (f.len / 2) else
     if k=7 then headB 6 n else if k=8 then headB 7 n else if k=9 then [251]++(leBytes 8 n).reverse else [])++layIs f
def layIs:IL→List UInt8
  | .nil=>[]
  | .cons x r=>layI x++layIs r
end
theorem layIs_step (a:IL) (j:Nat) (x:I) (h:a.get? j=some x):layIs (a.drop j)=layI x++layIs (a.drop (j+1)):=by
 rw [IL.drop_get a j x h];rfl
theorem layIs_end (a:IL) (j:Nat) (h:a.len≤j):layIs (a.drop j)=[]:=by
 rw [IL.drop_len a j h];rfl
theorem errIs_step (a:IL) (j:Nat) (x:I) (h:a.get? j=some x):errIs (a.drop j)=if errI x≠0 then errI x else errIs (a.drop (j+1)):=by
 rw [IL.drop_get a j x h];rfl
theorem errIs_end (a:IL) (j:Nat) (h:a.len≤j):errIs (a.drop j)=0:=by
 rw [IL.drop_len a j h];rfl
mutual
theorem layI_len:∀ x:I,(layI x).length≤9 * x.wt
 | .mk k n bs t f=>by
  have h1:=layIs_len f
  have e1:∀ m n,(headB m n).length≤9:=fun m n=>by rw [headB_len];have:=needN_le n;omega
  have h4:=sl_len t
  simp only [layI,I.wt,List.length_append]
  have g0:=e1 0 n;have g1:=e1 1 n;have g2:=e1 2 bs.length;have g3:=e1 3 t.size;have g4:=e1 4 f.len;have g5:=e1 5 (f.len / 2);have g6:=e1 6 n;have g7:=e1 7 n
  (repeat' split)<;>(try simp only [List.length_append,List.length_reverse,leBytes_length,List.length_cons,List.length_nil])<;>omega
theorem layIs_len:∀ f:IL,(layIs f).length≤9 * f.wt
 | .nil=>by simp [layIs]
 | .cons x r=>by
  have h1:=layI_len x
  have h2:=layIs_len r
  simp only [layIs,IL.wt,List.length_append]
  omega
end
end Go.Proofs.YtmooaepbdmengaaGreatDoor
namespace Go.Proofs.YtmooaepbdmengaaGreatDoor
open Go.RowKit
set_option linter.unusedVariables false
set_option linter.unusedSimpArgs false
theorem errIs_get:∀ (f:IL) (i:Nat) (x:I),errIs f=0→f.get? i=some x→errI x=0
 | .nil,i,x,h,hx=>by simp [IL.get?] at hx
 | .cons y r,0,x,h,hx=>by
  simp only [IL.get?,Option.some.injEq] at hx
  subst hx
  simp only [errIs] at h
  split at h
  ·rename_i h1;exact absurd h h1
  ·rename_i h1;omega
 | .cons y r,i+1,x,h,hx=>by
  simp only [errIs] at h
  split at h
  ·rename_i h1;exact absurd h h1
  ·exact errIs_get r i x h hx
def ItBx (W:World) (g:Nat) (k:Int) (n:Nat) (ab:Option Addr) (nb cb:Nat) (text:ByteArray) (ak:Option Addr) (nk ck:Nat):Prop:=
 W.cell? ⟨g,0,none⟩=some (.int .i64 k)∧W.cell? ⟨g,1,none⟩=some (.int .u64 (n:Nat))∧W.cell? ⟨g,2,none⟩=some (.slice ab nb cb)∧W.cell? ⟨g,3,none⟩=some (.string text)∧W.cell? ⟨g,4,none⟩=some (.slice ak nk ck)∧g < W.heap.size
theorem ItBx.chg {S:Nat→Prop} {W W':World} {g:Nat} {k:Int} {n:Nat} {ab:Option Addr} {nb cb:Nat} {text:ByteArray} {ak:Option Addr} {nk ck:Nat} (h:ItBx W g k n ab nb cb text ak nk ck) (hc:Chg S W W') (hg:¬ S g):ItBx W' g k n ab nb cb text ak nk ck:=
 ⟨hc.cell hg h.1,hc.cell hg h.2.1,hc.cell hg h.2.2.1,hc.cell hg h.2.2.2.1,hc.cell hg h.2.2.2.2.1,Nat.lt_of_lt_of_le h.2.2.2.2.2 hc.size⟩
theorem ItBx.keep {W W':World} {g:Nat} {k:Int} {n:Nat} {ab:Option Addr} {nb cb:Nat} {text:ByteArray} {ak:Option Addr} {nk ck:Nat} (h:ItBx W g k n ab nb cb text ak nk ck) (hb:Below W.heap.size W W'):ItBx W' g k n ab nb cb text ak nk ck:=h.chg (Chg.of_below (S:=fun _=>False) hb) (fun x=>x)
theorem ItBx.new (W:World) (k:Int) (n:Nat) (ab:Option Addr) (nb cb:Nat) (text:ByteArray) (ak:Option Addr) (nk ck:Nat) (ty:TypeId):ItBx (W.alloc (.cells #[.int .i64 k,.int .u64 (n:Nat),.slice ab nb cb,.string text,.slice ak nk ck] ty)) W.heap.size k n ab nb cb text ak nk ck:=by
 refine ⟨?_,?_,?_,?_,?_,?_⟩<;>simp [go_sem]
theorem no_txt (t:ByteArray):(t.toList == [])=(t.size == 0):=by
 rw [toList_sl,← sl_len]
 cases sl t<;>simp
def ownE (k:Int) (n bl:Nat) (t:ByteArray) (kl:Nat):Nat:=if k < 1∨9 < k then 5 else if fieldsB k n bl t.size kl=false then 1 else if (wholeTo (sl t) == t.size)=false then 4 else 0
set_option maxRecDepth 100000 in
set_option maxHeartbeats 4000000 in
theorem own_1 (n:Nat) (ab:Option Addr) (nb cb:Nat) (text:ByteArray) (ht9:text.size≤1048576) (ak:Option Addr) (nk ck:Nat) (hb9:nb≤9223372036854775807) (hk9:nk≤9223372036854775807) (w:World) :
  Calls Tryz.prog 38 #[.agg (itCells 1 n ab nb cb text ak nk ck)] w fun e w'=>e=.returned (.int .i64 (ownE 1 n nb text nk:Nat))∧Below w.heap.size w w':=by
 have HB:Hid (Below w.heap.size w (w.alloc (.cells #[.int .i64 1,.int .u64 (n:Nat),.slice ab nb cb,.string text,.slice ak nk ck] 39))):=(Below.refl _ _).alloc (Nat.le_refl _) _
 have CW:=Lib.hid (rwhole_calls text ht9)
 have hnt:((⟨#[]⟩:ByteArray).toList == [])=true:=by rw [no_txt];rfl
 have htx:=no_txt text
 obtain ⟨tl,htl⟩:∃ q,q=text.size:=⟨_,rfl⟩
 have HTL:Hid (tl=text.size):=htl
 rw [← htl] at htx
 clear htl ht9
 by_cases h0:nb=0
 case neg=>
  have x5:decide ((0:Int) < (nb:Int))=true:=by simp;omega
  have x5n:0 < nb:=by omega
  have HE:Hid (ownE 1 n nb text nk=1):=by show _=_;unfold ownE;rw [if_neg (by omega),← HTL.out];rw [if_pos (by unfold fieldsB;simp [h0])]
  go_enter Tryz.func38,Tryz.ntmps38
  go_wp2_with fail
  go_ret
  exact ⟨by rw [HE.out];rfl,by first|with_reducible exact HB.out|exact (Below.refl _ _).alloc (Nat.le_refl _) _⟩
 by_cases h1:tl=0
 case neg=>
  have x3:(text.toList == [])=false:=by rw [htx];simpa using h1
  have x3n:(text.toList != [])=true:=by unfold bne;rw [x3];rfl
  clear htx
  have HE:Hid (ownE 1 n nb text nk=1):=by show _=_;unfold ownE;rw [if_neg (by omega),← HTL.out];rw [if_pos (by unfold fieldsB;simp [h0,h1])]
  go_enter Tryz.func38,Tryz.ntmps38
  go_wp2_with fail
  go_ret
  exact ⟨by rw [HE.out];rfl,by first|with_reducible exact HB.out|exact (Below.refl _ _).alloc (Nat.le_refl _) _⟩
 have x3:(text.toList == [])=true:=by rw [htx];simpa using h1
 have x3n:(text.toList != [])=false:=by unfold bne;rw [x3];rfl
 clear htx
 by_cases h2:nk=0
 case neg=>
  have x6:decide ((0:Int) < (nk:Int))=true:=by simp;omega
  have x6n:0 < nk:=by omega
  have HE:Hid (ownE 1 n nb text nk=1):=by show _=_;unfold ownE;rw [if_neg (by omega),← HTL.out];rw [if_pos (by unfold fieldsB;simp [h0,h1,h2])]
  go_enter Tryz.func38,Tryz.ntmps38
  go_wp2_with fail
  go_ret
  exact ⟨by rw [HE.out];rfl,by first|with_reducible exact HB.out|exact (Below.refl _ _).alloc (Nat.le_refl _) _⟩
 have HE:Hid (ownE 1 n nb text nk=if (wholeTo (sl text) == text.size)=false then 4 else 0):=by
  show _=_
  unfold ownE
  rw [if_neg (by omega),if_neg]
  rw [← HTL.out]
  unfold fieldsB;simp [h0,h1,h2]
 generalize (wholeTo (sl text) == text.size)=b at CW HE
 go_enter Tryz.func38,Tryz.ntmps38
 go_wp2_with fail
 refine (CW.out _).mono ?_
 rintro e w1 ⟨rfl,hb1⟩
 have HB1:Hid (Below w.heap.size w w1):=((Below.refl w.heap.size w).alloc (Nat.le_refl _) _).trans (hb1.mono (by simp))
 clear hb1 CW
 cases b
 all_goals
  go_wp2_with fail
  go_ret
  exact ⟨by rw [HE.out];rfl,HB1.out⟩
set_option maxRecDepth 100000 in
set_option maxHeartbeats 4000000 in
theorem own_2 (n:Nat) (ab:Option Addr) (nb cb:Nat) (text:ByteArray) (ht9:text.size≤1048576) (ak:Option Addr) (nk ck:Nat) (hb9:nb≤9223372036854775807) (hk9:nk≤9223372036854775807) (w:World) :
  Calls Tryz.prog 38 #[.agg (itCells 2 n ab nb cb text ak nk ck)] w fun e w'=>e=.returned (.int .i64 (ownE 2 n nb text nk:Nat))∧Below w.heap.size w w':=by
 have HB:Hid (Below w.heap.size w (w.alloc (.cells #[.int .i64 2,.int .u64 (n:Nat),.slice ab nb cb,.string text,.slice ak nk ck] 39))):=(Below.refl _ _).alloc (Nat.le_refl _) _
 have CW:=Lib.hid (rwhole_calls text ht9)
 have hnt:((⟨#[]⟩:ByteArray).toList == [])=true:=by rw [no_txt];rfl
 have htx:=no_txt text
 obtain ⟨tl,htl⟩:∃ q,q=text.size:=⟨_,rfl⟩
 have HTL:Hid (tl=text.size):=htl
 rw [← htl] at htx
 clear htl ht9
 by_cases h0:nb=0
 case neg=>
  have x5:decide ((0:Int) < (nb:Int))=true:=by simp;omega
  have x5n:0 < nb:=by omega
  have HE:Hid (ownE 2 n nb text nk=1):=by show _=_;unfold ownE;rw [if_neg (by omega),← HTL.out];rw [if_pos (by unfold fieldsB;simp [h0])]
  go_enter Tryz.func38,Tryz.ntmps38
  go_wp2_with fail
  go_ret
  exact ⟨by rw [HE.out];rfl,by first|with_reducible exact HB.out|exact (Below.refl _ _).alloc (Nat.le_refl _) _⟩
 by_cases h1:tl=0
 case neg=>
  have x3:(text.toList == [])=false:=by rw [htx];simpa using h1
  have x3n:(text.toList != [])=true:=by unfold bne;rw [x3];rfl
  clear htx
  have HE:Hid (ownE 2 n nb text nk=1):=by show _=_;unfold ownE;rw [if_neg (by omega),← HTL.out];rw [if_pos (by unfold fieldsB;simp [h0,h1])]
  go_enter Tryz.func38,Tryz.ntmps38
  go_wp2_with fail
  go_ret
  exact ⟨by rw [HE.out];rfl,by first|with_reducible exact HB.out|exact (Below.refl _ _).alloc (Nat.le_refl _) _⟩
 have x3:(text.toList == [])=true:=by rw [htx];simpa using h1
 have x3n:(text.toList != [])=false:=by unfold bne;rw [x3];rfl
 clear htx
 by_cases h2:nk=0
 case neg=>
  have x6:decide ((0:Int) < (nk:Int))=true:=by simp;omega
  have x6n:0 < nk:=by omega
  have HE:Hid (ownE 2 n nb text nk=1):=by show _=_;unfold ownE;rw [if_neg (by omega),← HTL.out];rw [if_pos (by unfold fieldsB;simp [h0,h1,h2])]
  go_enter Tryz.func38,Tryz.ntmps38
  go_wp2_with fail
  go_ret
  exact ⟨by rw [HE.out];rfl,by first|with_reducible exact HB.out|exact (Below.refl _ _).alloc (Nat.le_refl _) _⟩
 have HE:Hid (ownE 2 n nb text nk=if (wholeTo (sl text) == text.size)=false then 4 else 0):=by
  show _=_
  unfold ownE
  rw [if_neg (by omega),if_neg]
  rw [← HTL.out]
  unfold fieldsB;simp [h0,h1,h2]
 generalize (wholeTo (sl text) == text.size)=b at CW HE
 go_enter Tryz.func38,Tryz.ntmps38
 go_wp2_with fail
 refine (CW.out _).mono ?_
 rintro e w1 ⟨rfl,hb1⟩
 have HB1:Hid (Below w.heap.size w w1):=((Below.refl w.heap.size w).alloc (Nat.le_refl _) _).trans (hb1.mono (by simp))
 clear hb1 CW
 cases b
 all_goals
  go_wp2_with fail
  go_ret
  exact ⟨by rw [HE.out];rfl,HB1.out⟩
set_option maxRecDepth 100000 in
set_option maxHeartbeats 4000000 in
theorem own_3 (n:Nat) (ab:Option Addr) (nb cb:Nat) (text:ByteArray) (ht9:text.size≤1048576) (ak:Option Addr) (nk ck:Nat) (hb9:nb≤9223372036854775807) (hk9:nk≤9223372036854775807) (w:World) :
  Calls Tryz.prog 38 #[.agg (itCells 3 n ab nb cb text ak nk ck)] w fun e w'=>e=.returned (.int .i64 (ownE 3 n nb text nk:Nat))∧Below w.heap.size w w':=by
 have HB:Hid (Below w.heap.size w (w.alloc (.cells #[.int .i64 3,.int .u64 (n:Nat),.slice ab nb cb,.string text,.slice ak nk ck] 39))):=(Below.refl _ _).alloc (Nat.le_refl _) _
 have CW:=Lib.hid (rwhole_calls text ht9)
 have hnt:((⟨#[]⟩:ByteArray).toList == [])=true:=by rw [no_txt];rfl
 have htx:=no_txt text
 obtain ⟨tl,htl⟩:∃ q,q=text.size:=⟨_,rfl⟩
 have HTL:Hid (tl=text.size):=htl
 rw [← htl] at htx
 clear htl ht9
 by_cases h0:n=0
 case neg=>
  have x4:((n:Int) != 0)=true:=by simp;omega
  have HE:Hid (ownE 3 n nb text nk=1):=by show _=_;unfold ownE;rw [if_neg (by omega),← HTL.out];rw [if_pos (by unfold fieldsB;simp [h0])]
  go_enter Tryz.func38,Tryz.ntmps38
  go_wp2_with fail
  go_ret
  exact ⟨by rw [HE.out];rfl,by first|with_reducible exact HB.out|exact (Below.refl _ _).alloc (Nat.le_refl _) _⟩
 by_cases h1:tl=0
 case neg=>
  have x3:(text.toList == [])=false:=by rw [htx];simpa using h1
  have x3n:(text.toList != [])=true:=by unfold bne;rw [x3];rfl
  clear htx
  have HE:Hid (ownE 3 n nb text nk=1):=by show _=_;unfold ownE;rw [if_neg (by omega),← HTL.out];rw [if_pos (by unfold fieldsB;simp [h0,h1])]
  go_enter Tryz.func38,Tryz.ntmps38
  go_wp2_with fail
  go_ret
  exact ⟨by rw [HE.out];rfl,by first|with_reducible exact HB.out|exact (Below.refl _ _).alloc (Nat.le_refl _) _⟩
 have x3:(text.toList == [])=true:=by rw [htx];simpa using h1
 have x3n:(text.toList != [])=false:=by unfold bne;rw [x3];rfl
 clear htx
 by_cases h2:nk=0
 case neg=>
  have x6:decide ((0:Int) < (nk:Int))=true:=by simp;omega
  have x6n:0 < nk:=by omega
  have HE:Hid (ownE 3 n nb text nk=1):=by show _=_;unfold ownE;rw [if_neg (by omega),← HTL.out];rw [if_pos (by unfold fieldsB;simp [h0,h1,h2])]
  go_enter Tryz.func38,Tryz.ntmps38
  go_wp2_with fail
  go_ret
  exact ⟨by rw [HE.out];rfl,by first|with_reducible exact HB.out|exact (Below.refl _ _).alloc (Nat.le_refl _) _⟩
 have HE:Hid (ownE 3 n nb text nk=if (wholeTo (sl text) == text.size)=false then 4 else 0):=by
  show _=_
  unfold ownE
  rw [if_neg (by omega),if_neg]
  rw [← HTL.out]
  unfold fieldsB;simp [h0,h1,h2]
 generalize (wholeTo (sl text) == text.size)=b at CW HE
 go_enter Tryz.func38,Tryz.ntmps38
 go_wp2_with fail
 refine (CW.out _).mono ?_
 rintro e w1 ⟨rfl,hb1⟩
 have HB1:Hid (Below w.heap.size w w1):=((Below.refl w.heap.size w).alloc (Nat.le_refl _) _).trans (hb1.mono (by simp))
 clear hb1 CW
 cases b
 all_goals
  go_wp2_with fail
  go_ret
  exact ⟨by rw [HE.out];rfl,HB1.out⟩
set_option maxRecDepth 100000 in
set_option maxHeartbeats 4000000 in
theorem own_4 (n:Nat) (ab:Option Addr) (nb cb:Nat) (text:ByteArray) (ht9:text.size≤1048576) (ak:Option Addr) (nk ck:Nat) (hb9:nb≤9223372036854775807) (hk9:nk≤9223372036854775807) (w:World) :
  Calls Tryz.prog 38 #[.agg (itCells 4 n ab nb cb text ak nk ck)] w fun e w'=>e=.returned (.int .i64 (ownE 4 n nb text nk:Nat))∧Below w.heap.size w w':=by
 have HB:Hid (Below w.heap.size w (w.alloc (.cells #[.int .i64 4,.int .u64 (n:Nat),.slice ab nb cb,.string text,.slice ak nk ck] 39))):=(Below.refl _ _).alloc (Nat.le_refl _) _
 have CW:=Lib.hid (rwhole_calls text ht9)
 have hnt:((⟨#[]⟩:ByteArray).toList == [])=true:=by rw [no_txt];rfl
 have htx:=no_txt text
 obtain ⟨tl,htl⟩:∃ q,q=text.size:=⟨_,rfl⟩
 have HTL:Hid (tl=text.size):=htl
 rw [← htl] at htx
 clear htl ht9
 clear htx
 by_cases h0:n=0
 case neg=>
  have x4:((n:Int) != 0)=true:=by simp;omega
  have HE:Hid (ownE 4 n nb text nk=1):=by show _=_;unfold ownE;rw [if_neg (by omega),← HTL.out];rw [if_pos (by unfold fieldsB;simp [h0])]
  go_enter Tryz.func38,Tryz.ntmps38
  go_wp2_with fail
  go_ret
  exact ⟨by rw [HE.out];rfl,by first|with_reducible exact HB.out|exact (Below.refl _ _).alloc (Nat.le_refl _) _⟩
 by_cases h1:nb=0
 case neg=>
  have x5:decide ((0:Int) < (nb:Int))=true:=by simp;omega
  have x5n:0 < nb:=by omega
  have HE:Hid (ownE 4 n nb text nk=1):=by show _=_;unfold ownE;rw [if_neg (by omega),← HTL.out];rw [if_pos (by unfold fieldsB;simp [h0,h1])]
  go_enter Tryz.func38,Tryz.ntmps38
  go_wp2_with fail
  go_ret
  exact ⟨by rw [HE.out];rfl,by first|with_reducible exact HB.out|exact (Below.refl _ _).alloc (Nat.le_refl _) _⟩
 by_cases h2:nk=0
 case neg=>
  have x6:decide ((0:Int) < (nk:Int))=true:=by simp;omega
  have x6n:0 < nk:=by omega
  have HE:Hid (ownE 4 n nb text nk=1):=by show _=_;unfold ownE;rw [if_neg (by omega),← HTL.out];rw [if_pos (by unfold fieldsB;simp [h0,h1,h2])]
  go_enter Tryz.func38,Tryz.ntmps38
  go_wp2_with fail
  go_ret
  exact ⟨by rw [HE.out];rfl,by first|with_reducible exact HB.out|exact (Below.refl _ _).alloc (Nat.le_refl _) _⟩
 have HE:Hid (ownE 4 n nb text nk=if (wholeTo (sl text) == text.size)=false then 4 else 0):=by
  show _=_
  unfold ownE
  rw [if_neg (by omega),if_neg]
  rw [← HTL.out]
  unfold fieldsB;simp [h0,h1,h2]
 generalize (wholeTo (sl text) == text.size)=b at CW HE
 go_enter Tryz.func38,Tryz.ntmps38
 go_wp2_with fail
 refine (CW.out _).mono ?_
 rintro e w1 ⟨rfl,hb1⟩
 have HB1:Hid (Below w.heap.size w w1):=((Below.refl w.heap.size w).alloc (Nat.le_refl _) _).trans (hb1.mono (by simp))
 clear hb1 CW
 cases b
 all_goals
  go_wp2_with fail
  go_ret
  exact ⟨by rw [HE.out];rfl,HB1.out⟩
set_option maxRecDepth 100000 in
set_option maxHeartbeats 4000000 in
theorem own_5 (n:Nat) (ab:Option Addr) (nb cb:Nat) (text:ByteArray) (ht9:text.size≤1048576) (ak:Option Addr) (nk ck:Nat) (hb9:nb≤9223372036854775807) (hk9:nk≤9223372036854775807) (w:World) :
  Calls Tryz.prog 38 #[.agg (itCells 5 n ab nb cb text ak nk ck)] w fun e w'=>e=.returned (.int .i64 (ownE 5 n nb text nk:Nat))∧Below w.heap.size w w':=by
 have HB:Hid (Below w.heap.size w (w.alloc (.cells #[.int .i64 5,.int .u64 (n:Nat),.slice ab nb cb,.string text,.slice ak nk ck] 39))):=(Below.refl _ _).alloc (Nat.le_refl _) _
 have CW:=Lib.hid (rwhole_calls text ht9)
 have hnt:((⟨#[]⟩:ByteArray).toList == [])=true:=by rw [no_txt];rfl
 have htx:=no_txt text
 obtain ⟨tl,htl⟩:∃ q,q=text.size:=⟨_,rfl⟩
 have HTL:Hid (tl=text.size):=htl
 rw [← htl] at htx
 clear htl ht9
 by_cases h0:n=0
 case neg=>
  have x4:((n:Int) != 0)=true:=by simp;omega
  have HE:Hid (ownE 5 n nb text nk=1):=by show _=_;unfold ownE;rw [if_neg (by omega),← HTL.out];rw [if_pos (by unfold fieldsB;simp [h0])]
  go_enter Tryz.func38,Tryz.ntmps38
  go_wp2_with fail
  go_ret
  exact ⟨by rw [HE.out];rfl,by first|with_reducible exact HB.out|exact (Below.refl _ _).alloc (Nat.le_refl _) _⟩
 by_cases h1:nb=0
 case neg=>
  have x5:decide ((0:Int) < (nb:Int))=true:=by simp;omega
  have x5n:0 < nb:=by omega
  have HE:Hid (ownE 5 n nb text nk=1):=by show _=_;unfold ownE;rw [if_neg (by omega),← HTL.out];rw [if_pos (by unfold fieldsB;simp [h0,h1])]
  go_enter Tryz.func38,Tryz.ntmps38
  go_wp2_with fail
  go_ret
  exact ⟨by rw [HE.out];rfl,by first|with_reducible exact HB.out|exact (Below.refl _ _).alloc (Nat.le_refl _) _⟩
 by_cases h2:tl=0
 case neg=>
  have x3:(text.toList == [])=false:=by rw [htx];simpa using h2
  have x3n:(text.toList != [])=true:=by unfold bne;rw [x3];rfl
  clear htx
  have HE:Hid (ownE 5 n nb text nk=1):=by show _=_;unfold ownE;rw [if_neg (by omega),← HTL.out];rw [if_pos (by unfold fieldsB;simp [h0,h1,h2])]
  go_enter Tryz.func38,Tryz.ntmps38
  go_wp2_with fail
  go_ret
  exact ⟨by rw [HE.out];rfl,by first|with_reducible exact HB.out|exact (Below.refl _ _).alloc (Nat.le_refl _) _⟩
 have x3:(text.toList == [])=true:=by rw [htx];simpa using h2
 have x3n:(text.toList != [])=false:=by unfold bne;rw [x3];rfl
 clear htx
 have HE:Hid (ownE 5 n nb text nk=if (wholeTo (sl text) == text.size)=false then 4 else 0):=by
  show _=_
  unfold ownE
  rw [if_neg (by omega),if_neg]
  rw [← HTL.out]
  unfold fieldsB;simp [h0,h1,h2]
 generalize (wholeTo (sl text) == text.size)=b at CW HE
 go_enter Tryz.func38,Tryz.ntmps38
 go_wp2_with fail
 refine (CW.out _).mono ?_
 rintro e w1 ⟨rfl,hb1⟩
 have HB1:Hid (Below w.heap.size w w1):=((Below.refl w.heap.size w).alloc (Nat.le_refl _) _).trans (hb1.mono (by simp))
 clear hb1 CW
 cases b
 all_goals
  go_wp2_with fail
  go_ret
  exact ⟨by rw [HE.out];rfl,HB1.out⟩
set_option maxRecDepth 100000 in
set_option maxHeartbeats 4000000 in
theorem own_6 (n:Nat) (ab:Option Addr) (nb cb:Nat) (text:ByteArray) (ht9:text.size≤1048576) (ak:Option Addr) (nk ck:Nat) (hb9:nb≤9223372036854775807) (hk9:nk≤9223372036854775807) (w:World) :
  Calls Tryz.prog 38 #[.agg (itCells 6 n ab nb cb text ak nk ck)] w fun e w'=>e=.returned (.int .i64 (ownE 6 n nb text nk:Nat))∧Below w.heap.size w w':=by
 have HB:Hid (Below w.heap.size w (w.alloc (.cells #[.int .i64 6,.int .u64 (n:Nat),.slice ab nb cb,.string text,.slice ak nk ck] 39))):=(Below.refl _ _).alloc (Nat.le_refl _) _
 have CW:=Lib.hid (rwhole_calls text ht9)
 have hnt:((⟨#[]⟩:ByteArray).toList == [])=true:=by rw [no_txt];rfl
 have htx:=no_txt text
 obtain ⟨tl,htl⟩:∃ q,q=text.size:=⟨_,rfl⟩
 have HTL:Hid (tl=text.size):=htl
 rw [← htl] at htx
 clear htl ht9
 have ct:(nk:Int).tmod 2=((nk % 2:Nat):Int):=by rw [Int.tmod_eq_emod_of_nonneg (by omega)];omega
 obtain ⟨r2,hr2⟩:∃ q,q=nk % 2:=⟨_,rfl⟩
 rw [← hr2] at ct
 have HR2:=Lib.hid hr2
 clear hr2
 by_cases h0:n=0
 case neg=>
  have x4:((n:Int) != 0)=true:=by simp;omega
  have HE:Hid (ownE 6 n nb text nk=1):=by show _=_;unfold ownE;rw [if_neg (by omega),← HTL.out];rw [if_pos (by unfold fieldsB;simp [h0])]
  go_enter Tryz.func38,Tryz.ntmps38
  go_wp2_with fail
  go_ret
  exact ⟨by rw [HE.out];rfl,by first|with_reducible exact HB.out|exact (Below.refl _ _).alloc (Nat.le_refl _) _⟩
 by_cases h1:nb=0
 case neg=>
  have x5:decide ((0:Int) < (nb:Int))=true:=by simp;omega
  have x5n:0 < nb:=by omega
  have HE:Hid (ownE 6 n nb text nk=1):=by show _=_;unfold ownE;rw [if_neg (by omega),← HTL.out];rw [if_pos (by unfold fieldsB;simp [h0,h1])]
  go_enter Tryz.func38,Tryz.ntmps38
  go_wp2_with fail
  go_ret
  exact ⟨by rw [HE.out];rfl,by first|with_reducible exact HB.out|exact (Below.refl _ _).alloc (Nat.le_refl _) _⟩
 by_cases h2:tl=0
 case neg=>
  have x3:(text.toList == [])=false:=by rw [htx];simpa using h2
  have x3n:(text.toList != [])=true:=by unfold bne;rw [x3];rfl
  clear htx
  have HE:Hid (ownE 6 n nb text nk=1):=by show _=_;unfold ownE;rw [if_neg (by omega),← HTL.out];rw [if_pos (by unfold fieldsB;simp [h0,h1,h2])]
  go_enter Tryz.func38,Tryz.ntmps38
  go_wp2_with fail
  go_ret
  exact ⟨by rw [HE.out];rfl,by first|with_reducible exact HB.out|exact (Below.refl _ _).alloc (Nat.le_refl _) _⟩
 have x3:(text.toList == [])=true:=by rw [htx];simpa using h2
 have x3n:(text.toList != [])=false:=by unfold bne;rw [x3];rfl
 clear htx
 by_cases h3:r2=0
 case neg=>
  have h3m:nk % 2≠0:=by rw [← HR2.out];exact h3
  have x7:((r2:Int) != 0)=true:=by simp;omega
  have HE:Hid (ownE 6 n nb text nk=1):=by show _=_;unfold ownE;rw [if_neg (by omega),← HTL.out];rw [if_pos (by unfold fieldsB;simp [h0,h1,h2,h3m])]
  go_enter Tryz.func38,Tryz.ntmps38
  go_wp2_with fail
  go_ret
  exact ⟨by rw [HE.out];rfl,by first|with_reducible exact HB.out|exact (Below.refl _ _).alloc (Nat.le_refl _) _⟩
 have h3m:nk % 2=0:=by rw [← HR2.out];exact h3
 have HE:Hid (ownE 6 n nb text nk=if (wholeTo (sl text) == text.size)=false then 4 else 0):=by
  show _=_
  unfold ownE
  rw [if_neg (by omega),if_neg]
  rw [← HTL.out]
  unfold fieldsB;simp [h0,h1,h2,h3m]
 generalize (wholeTo (sl text) == text.size)=b at CW HE
 go_enter Tryz.func38,Tryz.ntmps38
 go_wp2_with fail
 refine (CW.out _).mono ?_
 rintro e w1 ⟨rfl,hb1⟩
 have HB1:Hid (Below w.heap.size w w1):=((Below.refl w.heap.size w).alloc (Nat.le_refl _) _).trans (hb1.mono (by simp))
 clear hb1 CW
 cases b
 all_goals
  go_wp2_with fail
  go_ret
  exact ⟨by rw [HE.out];rfl,HB1.out⟩
set_option maxRecDepth 100000 in
set_option maxHeartbeats 4000000 in
theorem own_7 (n:Nat) (ab:Option Addr) (nb cb:Nat) (text:ByteArray) (ht9:text.size≤1048576) (ak:Option Addr) (nk ck:Nat) (hb9:nb≤9223372036854775807) (hk9:nk≤9223372036854775807) (w:World) :
  Calls Tryz.prog 38 #[.agg (itCells 7 n ab nb cb text ak nk ck)] w fun e w'=>e=.returned (.int .i64 (ownE 7 n nb text nk:Nat))∧Below w.heap.size w w':=by
 have HB:Hid (Below w.heap.size w (w.alloc (.cells #[.int .i64 7,.int .u64 (n:Nat),.slice ab nb cb,.string text,.slice ak nk ck] 39))):=(Below.refl _ _).alloc (Nat.le_refl _) _
 have CW:=Lib.hid (rwhole_calls text ht9)
 have hnt:((⟨#[]⟩:ByteArray).toList == [])=true:=by rw [no_txt];rfl
 have htx:=no_txt text
 obtain ⟨tl,htl⟩:∃ q,q=text.size:=⟨_,rfl⟩
 have HTL:Hid (tl=text.size):=htl
 rw [← htl] at htx
 clear htl ht9
 by_cases h0:nb=0
 case neg=>
  have x5:decide ((0:Int) < (nb:Int))=true:=by simp;omega
  have x5n:0 < nb:=by omega
  have HE:Hid (ownE 7 n nb text nk=1):=by show _=_;unfold ownE;rw [if_neg (by omega),← HTL.out];rw [if_pos (by unfold fieldsB;simp [h0])]
  go_enter Tryz.func38,Tryz.ntmps38
  go_wp2_with fail
  go_ret
  exact ⟨by rw [HE.out];rfl,by first|with_reducible exact HB.out|exact (Below.refl _ _).alloc (Nat.le_refl _) _⟩
 by_cases h1:tl=0
 case neg=>
  have x3:(text.toList == [])=false:=by rw [htx];simpa using h1
  have x3n:(text.toList != [])=true:=by unfold bne;rw [x3];rfl
  clear htx
  have HE:Hid (ownE 7 n nb text nk=1):=by show _=_;unfold ownE;rw [if_neg (by omega),← HTL.out];rw [if_pos (by unfold fieldsB;simp [h0,h1])]
  go_enter Tryz.func38,Tryz.ntmps38
  go_wp2_with fail
  go_ret
  exact ⟨by rw [HE.out];rfl,by first|with_reducible exact HB.out|exact (Below.refl _ _).alloc (Nat.le_refl _) _⟩
 have x3:(text.toList == [])=true:=by rw [htx];simpa using h1
 have x3n:(text.toList != [])=false:=by unfold bne;rw [x3];rfl
 clear htx
 by_cases h2:nk=1
 case neg=>
  have x7:((nk:Int) != 1)=true:=by simp;omega
  have HE:Hid (ownE 7 n nb text nk=1):=by show _=_;unfold ownE;rw [if_neg (by omega),← HTL.out];rw [if_pos (by unfold fieldsB;simp [h0,h1,h2])]
  go_enter Tryz.func38,Tryz.ntmps38
  go_wp2_with fail
  go_ret
  exact ⟨by rw [HE.out];rfl,by first|with_reducible exact HB.out|exact (Below.refl _ _).alloc (Nat.le_refl _) _⟩
 have HE:Hid (ownE 7 n nb text nk=if (wholeTo (sl text) == text.size)=false then 4 else 0):=by
  show _=_
  unfold ownE
  rw [if_neg (by omega),if_neg]
  rw [← HTL.out]
  unfold fieldsB;simp [h0,h1,h2]
 generalize (wholeTo (sl text) == text.size)=b at CW HE
 go_enter Tryz.func38,Tryz.ntmps38
 go_wp2_with fail
 refine (CW.out _).mono ?_
 rintro e w1 ⟨rfl,hb1⟩
 have HB1:Hid (Below w.heap.size w w1):=((Below.refl w.heap.size w).alloc (Nat.le_refl _) _).trans (hb1.mono (by simp))
 clear hb1 CW
 cases b
 all_goals
  go_wp2_with fail
  go_ret
  exact ⟨by rw [HE.out];rfl,HB1.out⟩
set_option maxRecDepth 100000 in
set_option maxHeartbeats 4000000 in
theorem own_8 (n:Nat) (ab:Option Addr) (nb cb:Nat) (text:ByteArray) (ht9:text.size≤1048576) (ak:Option Addr) (nk ck:Nat) (hb9:nb≤9223372036854775807) (hk9:nk≤9223372036854775807) (w:World) :
  Calls Tryz.prog 38 #[.agg (itCells 8 n ab nb cb text ak nk ck)] w fun e w'=>e=.returned (.int .i64 (ownE 8 n nb text nk:Nat))∧Below w.heap.size w w':=by
 have HB:Hid (Below w.heap.size w (w.alloc (.cells #[.int .i64 8,.int .u64 (n:Nat),.slice ab nb cb,.string text,.slice ak nk ck] 39))):=(Below.refl _ _).alloc (Nat.le_refl _) _
 have CW:=Lib.hid (rwhole_calls text ht9)
 have hnt:((⟨#[]⟩:ByteArray).toList == [])=true:=by rw [no_txt];rfl
 have htx:=no_txt text
 obtain ⟨tl,htl⟩:∃ q,q=text.size:=⟨_,rfl⟩
 have HTL:Hid (tl=text.size):=htl
 rw [← htl] at htx
 clear htl ht9
 by_cases h0:nb=0
 case neg=>
  have x5:decide ((0:Int) < (nb:Int))=true:=by simp;omega
  have x5n:0 < nb:=by omega
  have HE:Hid (ownE 8 n nb text nk=1):=by show _=_;unfold ownE;rw [if_neg (by omega),← HTL.out];rw [if_pos (by unfold fieldsB;simp [h0];try omega)]
  go_enter Tryz.func38,Tryz.ntmps38
  go_wp2_with fail
  go_ret
  exact ⟨by rw [HE.out];rfl,by first|with_reducible exact HB.out|exact (Below.refl _ _).alloc (Nat.le_refl _) _⟩
 by_cases h1:tl=0
 case neg=>
  have x3:(text.toList == [])=false:=by rw [htx];simpa using h1
  have x3n:(text.toList != [])=true:=by unfold bne;rw [x3];rfl
  clear htx
  have HE:Hid (ownE 8 n nb text nk=1):=by show _=_;unfold ownE;rw [if_neg (by omega),← HTL.out];rw [if_pos (by unfold fieldsB;simp [h0,h1];try omega)]
  go_enter Tryz.func38,Tryz.ntmps38
  go_wp2_with fail
  go_ret
  exact ⟨by rw [HE.out];rfl,by first|with_reducible exact HB.out|exact (Below.refl _ _).alloc (Nat.le_refl _) _⟩
 have x3:(text.toList == [])=true:=by rw [htx];simpa using h1
 have x3n:(text.toList != [])=false:=by unfold bne;rw [x3];rfl
 clear htx
 by_cases h2:nk=0
 case neg=>
  have x6:decide ((0:Int) < (nk:Int))=true:=by simp;omega
  have x6n:0 < nk:=by omega
  have HE:Hid (ownE 8 n nb text nk=1):=by show _=_;unfold ownE;rw [if_neg (by omega),← HTL.out];rw [if_pos (by unfold fieldsB;simp [h0,h1,h2];try omega)]
  go_enter Tryz.func38,Tryz.ntmps38
  go_wp2_with fail
  go_ret
  exact ⟨by rw [HE.out];rfl,by first|with_reducible exact HB.out|exact (Below.refl _ _).alloc (Nat.le_refl _) _⟩
 by_cases h3:20≤n
 case neg=>
  have x1:decide ((n:Int) < 20)=true:=by simp;omega
  have x1n:n < 20:=by omega
  have HE:Hid (ownE 8 n nb text nk=1):=by show _=_;unfold ownE;rw [if_neg (by omega),← HTL.out];rw [if_pos (by unfold fieldsB;simp [h0,h1,h2,h3];try omega)]
  go_enter Tryz.func38,Tryz.ntmps38
  go_wp2_with fail
  go_ret
  exact ⟨by rw [HE.out];rfl,by first|with_reducible exact HB.out|exact (Below.refl _ _).alloc (Nat.le_refl _) _⟩
 have x1:decide ((n:Int) < 20)=false:=by simp;omega
 have x1n:decide (n < 20)=false:=by simp;omega
 by_cases h4:n≤23
 case neg=>
  have x2:decide ((23:Int) < (n:Int))=true:=by simp;omega
  have x2n:23 < n:=by omega
  have HE:Hid (ownE 8 n nb text nk=1):=by show _=_;unfold ownE;rw [if_neg (by omega),← HTL.out];rw [if_pos (by unfold fieldsB;simp [h0,h1,h2,h3,h4];try omega)]
  go_enter Tryz.func38,Tryz.ntmps38
  go_wp2_with fail
  go_ret
  exact ⟨by rw [HE.out];rfl,by first|with_reducible exact HB.out|exact (Below.refl _ _).alloc (Nat.le_refl _) _⟩
 have x2:decide ((23:Int) < (n:Int))=false:=by simp;omega
 have x2n:decide (23 < n)=false:=by simp;omega
 have HE:Hid (ownE 8 n nb text nk=if (wholeTo (sl text) == text.size)=false then 4 else 0):=by
  show _=_
  unfold ownE
  rw [if_neg (by omega),if_neg]
  rw [← HTL.out]
  unfold fieldsB;simp [h0,h1,h2,h3,h4]
 generalize (wholeTo (sl text) == text.size)=b at CW HE
 go_enter Tryz.func38,Tryz.ntmps38
 go_wp2_with fail
 refine (CW.out _).mono ?_
 rintro e w1 ⟨rfl,hb1⟩
 have HB1:Hid (Below w.heap.size w w1):=((Below.refl w.heap.size w).alloc (Nat.le_refl _) _).trans (hb1.mono (by simp))
 clear hb1 CW
 cases b
 all_goals
  go_wp2_with fail
  go_ret
  exact ⟨by rw [HE.out];rfl,HB1.out⟩
set_option maxRecDepth 100000 in
set_option maxHeartbeats 4000000 in
theorem own_9 (n:Nat) (ab:Option Addr) (nb cb:Nat) (text:ByteArray) (ht9:text.size≤1048576) (ak:Option Addr) (nk ck:Nat) (hb9:nb≤9223372036854775807) (hk9:nk≤9223372036854775807) (w:World) :
  Calls Tryz.prog 38 #[.agg (itCells 9 n ab nb cb text ak nk ck)] w fun e w'=>e=.returned (.int .i64 (ownE 9 n nb text nk:Nat))∧Below w.heap.size w w':=by
 have HB:Hid (Below w.heap.size w (w.alloc (.cells #[.int .i64 9,.int .u64 (n:Nat),.slice ab nb cb,.string text,.slice ak nk ck] 39))):=(Below.refl _ _).alloc (Nat.le_refl _) _
 have CW:=Lib.hid (rwhole_calls text ht9)
 have hnt:((⟨#[]⟩:ByteArray).toList == [])=true:=by rw [no_txt];rfl
 have htx:=no_txt text
 obtain ⟨tl,htl⟩:∃ q,q=text.size:=⟨_,rfl⟩
 have HTL:Hid (tl=text.size):=htl
 rw [← htl] at htx
 clear htl ht9
 by_cases h0:nb=0
 case neg=>
  have x5:decide ((0:Int) < (nb:Int))=true:=by simp;omega
  have x5n:0 < nb:=by omega
  have HE:Hid (ownE 9 n nb text nk=1):=by show _=_;unfold ownE;rw [if_neg (by omega),← HTL.out];rw [if_pos (by unfold fieldsB;simp [h0])]
  go_enter Tryz.func38,Tryz.ntmps38
  go_wp2_with fail
  go_ret
  exact ⟨by rw [HE.out];rfl,by first|with_reducible exact HB.out|exact (Below.refl _ _).alloc (Nat.le_refl _) _⟩
 by_cases h1:tl=0
 case neg=>
  have x3:(text.toList == [])=false:=by rw [htx];simpa using h1
  have x3n:(text.toList != [])=true:=by unfold bne;rw [x3];rfl
  clear htx
  have HE:Hid (ownE 9 n nb text nk=1):=by show _=_;unfold ownE;rw [if_neg (by omega),← HTL.out];rw [if_pos (by unfold fieldsB;simp [h0,h1])]
  go_enter Tryz.func38,Tryz.ntmps38
  go_wp2_with fail
  go_ret
  exact ⟨by rw [HE.out];rfl,by first|with_reducible exact HB.out|exact (Below.refl _ _).alloc (Nat.le_refl _) _⟩
 have x3:(text.toList == [])=true:=by rw [htx];simpa using h1
 have x3n:(text.toList != [])=false:=by unfold bne;rw [x3];rfl
 clear htx
 by_cases h2:nk=0
 case neg=>
  have x6:decide ((0:Int) < (nk:Int))=true:=by simp;omega
  have x6n:0 < nk:=by omega
  have HE:Hid (ownE 9 n nb text nk=1):=by show _=_;unfold ownE;rw [if_neg (by omega),← HTL.out];rw [if_pos (by unfold fieldsB;simp [h0,h1,h2])]
  go_enter Tryz.func38,Tryz.ntmps38
  go_wp2_with fail
  go_ret
  exact ⟨by rw [HE.out];rfl,by first|with_reducible exact HB.out|exact (Below.refl _ _).alloc (Nat.le_refl _) _⟩
 have HE:Hid (ownE 9 n nb text nk=if (wholeTo (sl text) == text.size)=false then 4 else 0):=by
  show _=_
  unfold ownE
  rw [if_neg (by omega),if_neg]
  rw [← HTL.out]
  unfold fieldsB;simp [h0,h1,h2]
 generalize (wholeTo (sl text) == text.size)=b at CW HE
 go_enter Tryz.func38,Tryz.ntmps38
 go_wp2_with fail
 refine (CW.out _).mono ?_
 rintro e w1 ⟨rfl,hb1⟩
 have HB1:Hid (Below w.heap.size w w1):=((Below.refl w.heap.size w).alloc (Nat.le_refl _) _).trans (hb1.mono (by simp))
 clear hb1 CW
 cases b
 all_goals
  go_wp2_with fail
  go_ret
  exact ⟨by rw [HE.out];rfl,HB1.out⟩
set_option maxRecDepth 100000 in
set_option maxHeartbeats 4000000 in
theorem own_out (k:Int) (hk:k < 1∨9 < k) (n:Nat) (ab:Option Addr) (nb cb:Nat) (text:ByteArray) (ak:Option Addr) (nk ck:Nat) (w:World) :
  Calls Tryz.prog 38 #[.agg (itCells k n ab nb cb text ak nk ck)] w fun e w'=>e=.returned (.int .i64 (ownE k n nb text nk:Nat))∧Below w.heap.size w w':=by
 have HB:Hid (Below w.heap.size w (w.alloc (.cells #[.int .i64 k,.int .u64 (n:Nat),.slice ab nb cb,.string text,.slice ak nk ck] 39))):=(Below.refl _ _).alloc (Nat.le_refl _) _
 have HE:Hid (ownE k n nb text nk=5):=by show _=_;unfold ownE;rw [if_pos hk]
 have a3:(k != 3)=true:=by simp;omega
 have a4:(k != 4)=true:=by simp;omega
 have a5:(k != 5)=true:=by simp;omega
 have a6:(k != 6)=true:=by simp;omega
 by_cases h1:k < 1
 ·have d1:decide (k < 1)=true:=by simpa using h1
  clear hk
  go_enter Tryz.func38,Tryz.ntmps38
  go_wp2_with fail
  go_ret
  exact ⟨by rw [HE.out];rfl,HB.out⟩
 ·have d1:decide (k < 1)=false:=by simpa using h1
  have d2:decide (9 < k)=true:=by simp;omega
  clear hk
  go_enter Tryz.func38,Tryz.ntmps38
  go_wp2_with fail
  go_ret
  exact ⟨by rw [HE.out];rfl,HB.out⟩
theorem own_calls (k:Int) (n:Nat) (ab:Option Addr) (nb cb:Nat) (text:ByteArray) (ht9:text.size≤1048576) (ak:Option Addr) (nk ck:Nat) (hb9:nb≤9223372036854775807) (hk9:nk≤9223372036854775807) (w:World) :
  Calls Tryz.prog 38 #[.agg (itCells k n ab nb cb text ak nk ck)] w fun e w'=>e=.returned (.int .i64 (ownE k n nb text nk:Nat))∧Below w.heap.size w w':=by
 by_cases hk:k < 1∨9 < k
 ·exact own_out k hk n ab nb cb text ak nk ck w
 have:k=1∨k=2∨k=3∨k=4∨k=5∨k=6∨k=7∨k=8∨k=9:=by omega
 rcases this with rfl|rfl|rfl|rfl|rfl|rfl|rfl|rfl|rfl
 ·exact own_1 n ab nb cb text ht9 ak nk ck hb9 hk9 w
 ·exact own_2 n ab nb cb text ht9 ak nk ck hb9 hk9 w
 ·exact own_3 n ab nb cb text ht9 ak nk ck hb9 hk9 w
 ·exact own_4 n ab nb cb text ht9 ak nk ck hb9 hk9 w
 ·exact own_5 n ab nb cb text ht9 ak nk ck hb9 hk9 w
 ·exact own_6 n ab nb cb text ht9 ak nk ck hb9 hk9 w
 ·exact own_7 n ab nb cb text ht9 ak nk ck hb9 hk9 w
 ·exact own_8 n ab nb cb text ht9 ak nk ck hb9 hk9 w
 ·exact own_9 n ab nb cb text ht9 ak nk ck hb9 hk9 w
theorem errI_own (k:Int) (n:Nat) (ys:List UInt8) (t:ByteArray) (f:IL):errI (.mk k n ys t f)=if ownE k n ys.length t f.len≠0 then ownE k n ys.length t f.len else errIs f:=by
 simp only [errI,ownE]
 (repeat' split)<;>first|rfl|omega|simp_all
def RChkSaid (d:Nat):Prop:=∀ x:I,x.wt≤d→∀ (w:World) (c:Array Value),RdIt (fun _=>True) w x c→Calls Tryz.prog 21 #[.agg c] w fun e w'=>e=.returned (.int .i64 (errI x:Nat))∧Below w.heap.size w w'
set_option maxRecDepth 100000 in
set_option maxHeartbeats 4000000 in
theorem rchk_stepZ (d:Nat) (hd9:d≤1000000) (hof:RChkSaid d):RChkSaid (d+1):=by
 intro x hd w c hr
 obtain ⟨k,n,ys,text,kids⟩:=x
 simp only [I.wt] at hd
 have hr0:=hr
 obtain ⟨ab,nb,cb,ak,nk,ck,rfl,hok,hbs,hkl,hrm,hks⟩:=hr
 obtain ⟨wa,hwa⟩:∃ W,W=w.alloc (.cells #[.int .i64 k,.int .u64 (n:Nat),.slice ab nb cb,.string text,.slice ak nk ck] 39):=⟨_,rfl⟩
 obtain ⟨gb,hgb⟩:∃ q,q=w.heap.size:=⟨_,rfl⟩
 have hba:Below w.heap.size w wa:=by rw [hwa];exact (Below.refl _ _).alloc (Nat.le_refl _) _
 have hxa:ItBx wa gb k n ab nb cb text ak nk ck:=by rw [hwa,hgb];exact ItBx.new _ _ _ _ _ _ _ _ _ _ _
 have HXa:=Lib.hid hxa
 have HBA:=Lib.hid hba
 have HKS:Hid (RdIs (fun _=>True) wa ak 0 kids):=hks.below hba
 have HKL:=Lib.hid hkl
 have hyl:ys.length=nb:=hbs.1.1
 have hnk:=hrm.1
 have hkw:=IL.len_wt kids
 have hnb9:nb≤9223372036854775807:=hbs.1.2.1
 have CO:=Lib.hid (fun W=>own_calls k n ab nb cb text (by omega) ak nk ck hnb9 hnk W)
 have HE:Hid (errI (.mk k n ys text kids)=if ownE k n nb text nk≠0 then ownE k n nb text nk else errIs kids):=by
  show _=_
  rw [errI_own,hyl,hkl]
 generalize errI (.mk k n ys text kids)=R at HE ⊢
 generalize ownE k n nb text nk=E0 at CO HE
 obtain ⟨f0,f1,f2,f3,f4,l0⟩:=hxa
 clear hba hok hbs hrm hks hyl hr0 hkl hnb9
 go_enter Tryz.func21,Tryz.ntmps21
 go_upto_region 1 with fail
 rw [← hwa,← hgb]
 clear hwa hgb
 go_wp2_with fail
 refine (CO.out _).mono ?_
 rintro e w1 ⟨rfl,hb1⟩
 have HB1:=Lib.hid hb1
 clear hb1 CO f0 f1 f2 f3 f4 l0
 go_wp2_with fail
 go_loopw [3,4] (fun q i wr=>∃ (j E:Nat),j≤nk∧i=.int .i64 j∧q=.int .i64 E∧Hid (R=if E≠0 then E else errIs (kids.drop j))∧Below wa.heap.size wa wr) (fun _ i _=>nk - (intOf i).toNat)
 case atStart=>exact ⟨0,E0,by omega,rfl,rfl,by show _=_;rw [HE.out];cases kids<;>rfl,HB1.out⟩
 case round=>
  obtain ⟨j,E,hj,rfl,rfl,hr,hbl⟩:=hrel
  have HBL:=Lib.hid hbl
  obtain ⟨f0,f1,f2,f3,f4,l0⟩:=HXa.out.keep hbl
  clear hbl
  by_cases hlt:j < nk
  ·by_cases hE:E=0
   ·subst hE
    obtain ⟨x,hx⟩:=IL.get_some kids j (by rw [HKL.out];exact hlt)
    have hwg2:=IL.wt_get kids j x hx
    have hst:=errIs_step kids j x hx
    obtain ⟨b,o,k',n',bs',text',kids',ab',nb',cb',ak',nk',ck',hab,hxe,hblt,hxr,z0,z1,z2,z3,z4⟩:=(HKS.out.at hx).cells
    subst hab
    have CL:=Lib.hid (hof x (by omega) wr _ (hxr.below HBL.out))
    obtain ⟨E,hE⟩:∃ q,q=errI x:=⟨_,rfl⟩
    rw [← hE] at CL hst
    have HST:Hid (R=if E≠0 then E else errIs (kids.drop (j+1))):=by show _=_;rw [hr.out,if_neg (by simp),hst]
    have y0:wr.cell? ⟨b,o+j * 5,none⟩=some (.int .i64 k'):=cell_below HBL.out z0
    have y1:wr.cell? ⟨b,o+j * 5+1,none⟩=some (.int .u64 (n':Nat)):=cell_below HBL.out z1
    have y2:wr.cell? ⟨b,o+j * 5+2,none⟩=some (.slice ab' nb' cb'):=cell_below HBL.out z2
    have y3:wr.cell? ⟨b,o+j * 5+3,none⟩=some (.string text'):=cell_below HBL.out z3
    have y4:wr.cell? ⟨b,o+j * 5+4,none⟩=some (.slice ak' nk' ck'):=cell_below HBL.out z4
    have hj0:(0:Int)≤(j:Int):=by omega
    have hj1:(j:Int) < (nk:Int):=by omega
    clear hx hwg2 hst hxr z0 z1 z2 z3 z4 hxe hE hr
    go_wp2_with fail
    refine CL.out.mono ?_
    rintro e w6 ⟨rfl,hb6⟩
    have HB6:Hid (Below wa.heap.size wa w6):=HBL.out.trans (hb6.mono HBL.out.size)
    clear hb6 y0 y1 y2 y3 y4 CL
    go_wp2_with fail
    go_roundw
    case rel=>exact ⟨j+1,E,by omega,by simp,rfl,HST,HB6.out⟩
    case measure=>simp [intOf];omega
   ·have hf:Hid (R=E):=by show _=_;rw [hr.out,if_pos hE]
    have hne:((E:Int) == 0)=false:=by simpa using hE
    have hne2:(E == 0)=false:=by simpa using hE
    have hne3:((E:Int)=0)=False:=by simpa using hE
    clear hr
    go_wp2_with fail
    go_ret
    exact ⟨by rw [hf.out];rfl,HBA.out.trans (HBL.out.mono HBA.out.size)⟩
  ·have hf:Hid (R=E):=by
    show _=_
    rw [hr.out,errIs_end kids j (by rw [HKL.out];omega)]
    split<;>omega
   clear hr
   go_wp2_with fail
   go_ret
   exact ⟨by rw [hf.out];rfl,HBA.out.trans (HBL.out.mono HBA.out.size)⟩
theorem rchk_allZ:∀ d,d≤1000001→RChkSaid d
 | 0,_=>fun x h=>by have:=I.wt_pos x;omega
 | d+1,h=>rchk_stepZ d (by omega) (rchk_allZ d (by omega))
def HeadO (w:World) (bs:List UInt8) (e:Ending) (w':World):Prop:=∃ v,e=.returned v∧St w v bs w'
set_option maxRecDepth 100000 in
set_option maxHeartbeats 4000000 in
theorem rhead_calls (mi:Int) (m:Nat) (hmi:mi=m) (hm:m≤7) (n:Nat) (hn:n < okSize) (w:World) :
  Calls Tryz.prog 39 #[.int .i64 mi,.int .u64 (n:Nat)] w (HeadO w (headB m n)):=by
 obtain ⟨F,hF⟩:∃ F,F=32 * m:=⟨_,rfl⟩
 have w1:IntKind.i64.wrap (32 * mi)=(F:Int):=(IntWalk.i64_in _ (by omega)).trans (by omega)
 have w2:IntKind.u8.wrap (F:Int)=(F:Int):=IntWalk.u8_in _ (by omega)
 have hF9:F≤224:=by omega
 have HH:Hid (headB m n=UInt8.ofNat (F+codeN n)::(leBytes (needN n) n).reverse):=by show _=_;unfold headB;rw [hF]
 generalize headB m n=H at HH ⊢
 clear hF hmi hm
 by_cases h0:n < 24
 ·have HV:Hid (H=[UInt8.ofNat (F+n)]):=by show _=_;rw [HH.out];unfold codeN needN;rw [if_pos h0,if_pos h0];rfl
  have d0:decide ((n:Int) < 24)=true:=by simp;omega
  have w3:IntKind.u8.wrap (n:Int)=(n:Int):=IntWalk.u8_in _ (by omega)
  obtain ⟨X,hX⟩:∃ X,X=F+n:=⟨_,rfl⟩
  have w4:IntKind.u8.wrap ((F:Int)+(n:Int))=(X:Int):=(IntWalk.u8_in _ (by omega)).trans (by omega)
  have HV2:Hid (H=[UInt8.ofNat X]):=by show _=_;rw [HV.out,hX]
  have hX9:X < 256:=by omega
  clear h0 hX HV HH hn
  go_enter Tryz.func39,Tryz.ntmps39
  go_wp2_with fail
  go_ret
  rw [HV2.out]
  exact ⟨_,rfl,own_fresh w _ X hX9 (Nat.le_refl _),(Below.refl _ _).alloc (Nat.le_refl _) _⟩
 have d0:decide ((n:Int) < 24)=false:=by simp;omega
 by_cases h1:n < 256
 ·have HV:Hid (H=[UInt8.ofNat (F+24)]++(leBytes 1 n).reverse):=by
   show _=_
   rw [HH.out,show codeN n=24 by unfold codeN;rw [if_neg h0,if_pos h1],show needN n=1 by unfold needN;rw [if_neg h0,if_pos h1]]
   rfl
  have d1:decide ((n:Int) < 256)=true:=by simp;omega
  obtain ⟨X,hX⟩:∃ X,X=F+24:=⟨_,rfl⟩
  have w4:IntKind.u8.wrap ((F:Int)+24)=(X:Int):=(IntWalk.u8_in _ (by omega)).trans (by omega)
  have HV2:Hid (H=[UInt8.ofNat X]++(leBytes 1 n).reverse):=by show _=_;rw [HV.out,hX]
  have hX9:X < 256:=by omega
  have CP:=Lib.hid (fun W=>putHigh_calls n 1 hn W)
  have HS:Hid (putHighS n 1=(leBytes 1 n).reverse):=rfl
  have hlen:(leBytes 1 n).reverse.length=1:=by simp [leBytes_length]
  generalize (leBytes 1 n).reverse=T at HS HV2 hlen
  rw [HS.out] at CP
  clear h0 h1 hX HV HH hn HS
  go_enter Tryz.func39,Tryz.ntmps39
  go_wp2_with fail
  refine (CP.out _).mono ?_
  rintro e wb ⟨v,rfl,ho,hb⟩
  have HO:=Lib.hid ho
  have HF1:Hid (OwnB wb w.heap.size (.slice (some ⟨w.heap.size,0,none⟩) 1 1) [UInt8.ofNat X]):=(own_fresh w _ X hX9 (Nat.le_refl _)).keep hb
  have HB:Hid (Below w.heap.size w wb):=((Below.refl _ _).alloc (Nat.le_refl _) _).trans (hb.mono (by simp))
  clear ho hb CP
  go_wp2_with (at_builtin;refine wpList_appB (v:=.slice (some ⟨w.heap.size,0,none⟩) 1 1) (bs:=[UInt8.ofNat X]) (sv:=v) (l:=T) (B:=w.heap.size) (by rfl) _ _ (by rfl) (by rfl) HF1.out (by rfl) HO.out.srcB ?o1 ?o2 ?_)
  case o1=>simp [hlen]
  case o2=>exact HB.out.size
  intro v2 wd ho2 hl2
  have HO2:=Lib.hid ho2
  have HB2:=Lib.hid ((LayF.app hl2).below HB.out HB.out.size (fun k hk=>(owns_lt HF1.out k hk).1))
  clear ho2 hl2
  go_wp2_with fail
  go_ret
  rw [HV2.out]
  exact ⟨_,rfl,HO2.out,HB2.out⟩
 have d1:decide ((n:Int) < 256)=false:=by simp;omega
 by_cases h2:n < 65536
 ·have HV:Hid (H=[UInt8.ofNat (F+25)]++(leBytes 2 n).reverse):=by
   show _=_
   rw [HH.out,show codeN n=25 by unfold codeN;rw [if_neg h0,if_neg h1,if_pos h2],show needN n=2 by unfold needN;rw [if_neg h0,if_neg h1,if_pos h2]]
   rfl
  have d2:decide ((n:Int) < 65536)=true:=by simp;omega
  obtain ⟨X,hX⟩:∃ X,X=F+25:=⟨_,rfl⟩
  have w4:IntKind.u8.wrap ((F:Int)+25)=(X:Int):=(IntWalk.u8_in _ (by omega)).trans (by omega)
  have HV2:Hid (H=[UInt8.ofNat X]++(leBytes 2 n).reverse):=by show _=_;rw [HV.out,hX]
  have hX9:X < 256:=by omega
  have CP:=Lib.hid (fun W=>putHigh_calls n 2 hn W)
  have HS:Hid (putHighS n 2=(leBytes 2 n).reverse):=rfl
  have hlen:(leBytes 2 n).reverse.length=2:=by simp [leBytes_length]
  generalize (leBytes 2 n).reverse=T at HS HV2 hlen
  rw [HS.out] at CP
  clear h0 h1 h2 hX HV HH hn HS
  go_enter Tryz.func39,Tryz.ntmps39
  go_wp2_with fail
  refine (CP.out _).mono ?_
  rintro e wb ⟨v,rfl,ho,hb⟩
  have HO:=Lib.hid ho
  have HF1:Hid (OwnB wb w.heap.size (.slice (some ⟨w.heap.size,0,none⟩) 1 1) [UInt8.ofNat X]):=(own_fresh w _ X hX9 (Nat.le_refl _)).keep hb
  have HB:Hid (Below w.heap.size w wb):=((Below.refl _ _).alloc (Nat.le_refl _) _).trans (hb.mono (by simp))
  clear ho hb CP
  go_wp2_with (at_builtin;refine wpList_appB (v:=.slice (some ⟨w.heap.size,0,none⟩) 1 1) (bs:=[UInt8.ofNat X]) (sv:=v) (l:=T) (B:=w.heap.size) (by rfl) _ _ (by rfl) (by rfl) HF1.out (by rfl) HO.out.srcB ?o1 ?o2 ?_)
  case o1=>simp [hlen]
  case o2=>exact HB.out.size
  intro v2 wd ho2 hl2
  have HO2:=Lib.hid ho2
  have HB2:=Lib.hid ((LayF.app hl2).below HB.out HB.out.size (fun k hk=>(owns_lt HF1.out k hk).1))
  clear ho2 hl2
  go_wp2_with fail
  go_ret
  rw [HV2.out]
  exact ⟨_,rfl,HO2.out,HB2.out⟩
 have d2:decide ((n:Int) < 65536)=false:=by simp;omega
 by_cases h3:n < 4294967296
 ·have HV:Hid (H=[UInt8.ofNat (F+26)]++(leBytes 4 n).reverse):=by
   show _=_
   rw [HH.out,show codeN n=26 by unfold codeN;rw [if_neg h0,if_neg h1,if_neg h2,if_pos h3],show needN n=4 by unfold needN;rw [if_neg h0,if_neg h1,if_neg h2,if_pos h3]]
   rfl
  have d3:decide ((n:Int) < 4294967296)=true:=by simp;omega
  obtain ⟨X,hX⟩:∃ X,X=F+26:=⟨_,rfl⟩
  have w4:IntKind.u8.wrap ((F:Int)+26)=(X:Int):=(IntWalk.u8_in _ (by omega)).trans (by omega)
  have HV2:Hid (H=[UInt8.ofNat X]++(leBytes 4 n).reverse):=by show _=_;rw [HV.out,hX]
  have hX9:X < 256:=by omega
  have CP:=Lib.hid (fun W=>putHigh_calls n 4 hn W)
  have HS:Hid (putHighS n 4=(leBytes 4 n).reverse):=rfl
  have hlen:(leBytes 4 n).reverse.length=4:=by simp [leBytes_length]
  generalize (leBytes 4 n).reverse=T at HS HV2 hlen
  rw [HS.out] at CP
  clear h0 h1 h2 h3 hX HV HH hn HS
  go_enter Tryz.func39,Tryz.ntmps39
  go_wp2_with fail
  refine (CP.out _).mono ?_
  rintro e wb ⟨v,rfl,ho,hb⟩
  have HO:=Lib.hid ho
  have HF1:Hid (OwnB wb w.heap.size (.slice (some ⟨w.heap.size,0,none⟩) 1 1) [UInt8.ofNat X]):=(own_fresh w _ X hX9 (Nat.le_refl _)).keep hb
  have HB:Hid (Below w.heap.size w wb):=((Below.refl _ _).alloc (Nat.le_refl _) _).trans (hb.mono (by simp))
  clear ho hb CP
  go_wp2_with (at_builtin;refine wpList_appB (v:=.slice (some ⟨w.heap.size,0,none⟩) 1 1) (bs:=[UInt8.ofNat X]) (sv:=v) (l:=T) (B:=w.heap.size) (by rfl) _ _ (by rfl) (by rfl) HF1.out (by rfl) HO.out.srcB ?o1 ?o2 ?_)
  case o1=>simp [hlen]
  case o2=>exact HB.out.size
  intro v2 wd ho2 hl2
  have HO2:=Lib.hid ho2
  have HB2:=Lib.hid ((LayF.app hl2).below HB.out HB.out.size (fun k hk=>(owns_lt HF1.out k hk).1))
  clear ho2 hl2
  go_wp2_with fail
  go_ret
  rw [HV2.out]
  exact ⟨_,rfl,HO2.out,HB2.out⟩
 have d3:decide ((n:Int) < 4294967296)=false:=by simp;omega
 have HV:Hid (H=[UInt8.ofNat (F+27)]++(leBytes 8 n).reverse):=by
  show _=_
  rw [HH.out,show codeN n=27 by unfold codeN;rw [if_neg h0,if_neg h1,if_neg h2,if_neg h3],show needN n=8 by unfold needN;rw [if_neg h0,if_neg h1,if_neg h2,if_neg h3]]
  rfl
 obtain ⟨X,hX⟩:∃ X,X=F+27:=⟨_,rfl⟩
 have w4:IntKind.u8.wrap ((F:Int)+27)=(X:Int):=(IntWalk.u8_in _ (by omega)).trans (by omega)
 have HV2:Hid (H=[UInt8.ofNat X]++(leBytes 8 n).reverse):=by show _=_;rw [HV.out,hX]
 have hX9:X < 256:=by omega
 have CP:=Lib.hid (fun W=>putHigh_calls n 8 hn W)
 have HS:Hid (putHighS n 8=(leBytes 8 n).reverse):=rfl
 have hlen:(leBytes 8 n).reverse.length=8:=by simp [leBytes_length]
 generalize (leBytes 8 n).reverse=T at HS HV2 hlen
 rw [HS.out] at CP
 clear h0 h1 h2 h3 hX HV HH hn HS
 go_enter Tryz.func39,Tryz.ntmps39
 go_wp2_with fail
 refine (CP.out _).mono ?_
 rintro e wb ⟨v,rfl,ho,hb⟩
 have HO:=Lib.hid ho
 have HF1:Hid (OwnB wb w.heap.size (.slice (some ⟨w.heap.size,0,none⟩) 1 1) [UInt8.ofNat X]):=(own_fresh w _ X hX9 (Nat.le_refl _)).keep hb
 have HB:Hid (Below w.heap.size w wb):=((Below.refl _ _).alloc (Nat.le_refl _) _).trans (hb.mono (by simp))
 clear ho hb CP
 go_wp2_with (at_builtin;refine wpList_appB (v:=.slice (some ⟨w.heap.size,0,none⟩) 1 1) (bs:=[UInt8.ofNat X]) (sv:=v) (l:=T) (B:=w.heap.size) (by rfl) _ _ (by rfl) (by rfl) HF1.out (by rfl) HO.out.srcB ?o1 ?o2 ?_)
 case o1=>simp [hlen]
 case o2=>exact HB.out.size
 intro v2 wd ho2 hl2
 have HO2:=Lib.hid ho2
 have HB2:=Lib.hid ((LayF.app hl2).below HB.out HB.out.size (fun k hk=>(owns_lt HF1.out k hk).1))
 clear ho2 hl2
 go_wp2_with fail
 go_ret
 rw [HV2.out]
 exact ⟨_,rfl,HO2.out,HB2.out⟩
theorem errI_ok {k:Int} {n:Nat} {ys:List UInt8} {text:ByteArray} {kids:IL} (h:errI (.mk k n ys text kids)=0):(1≤k∧k≤9)∧fieldsB k n ys.length text.size kids.len=true∧(wholeTo (sl text) == text.size)=true∧errIs kids=0:=by
 simp only [errI] at h
 split at h
 ·omega
 ·rename_i h1
  split at h
  ·omega
  ·rename_i h2
   split at h
   ·omega
   ·rename_i h3
    exact ⟨by omega,by simpa using h2,by simpa using h3,h⟩
theorem own_roomy4 {w:World} {B:Nat} {a:Option Addr} {n c:Nat} {bs:List UInt8} (h:OwnB w B (.slice a n c) bs):(a=none→c=0)∧n≤c:=by
 rcases h.2 with ⟨e,h0⟩|⟨g,cp,cur,e,_,_,hn,_⟩
 ·simp only [Value.slice.injEq] at e
  exact ⟨fun _=>e.2.2,by omega⟩
 ·simp only [Value.slice.injEq] at e
  obtain ⟨rfl,rfl,rfl⟩:=e
  exact ⟨by simp,hn⟩
end Go.Proofs.YtmooaepbdmengaaGreatDoor
