/- Parts of the proof of SniffWritten: BoL, BoZ, BoH, BoM. -/
import Derived.Test.YtmooaepbdmengaaGreatDoorZ03
import Derived.Test.YtmooaepbdmengaaGreatDoorZ02
import Derived.Test.YtmooaepbdmengaaGreatDoorZ01
import Derived.Lib.Bytealg
import Derived.Lib.Strings
import Derived.Deep.CutRange
namespace Go.Proofs.YtmooaepbdmengaaGreatDoor
open Go.RowKit
set_option linter.unusedVariables false
set_option linter.unusedSimpArgs false
def kdCells:Array Value:=#[.int .i64 1,.int .i64 2,.int .i64 3,.int .i64 4,.int .i64 5,.int .i64 6,.int .i64 7,.int .i64 8,.int .i64 9,.int .i64 10,.int .i64 11,.int .i64 12,.int .i64 13,.int .i64 14,.int .i64 15,.int .i64 16,.int .i64 17,.int .i64 18,.int .i64 19,.int .i64 127,.int .i64 255]
def rnCells:Array Value:=#[.string ⟨#[100,111,117,98,108,101]⟩,.string ⟨#[115,116,114,105,110,103]⟩,.string ⟨#[100,111,99,117,109,101,110,116]⟩,.string ⟨#[97,114,114,97,121]⟩,.string ⟨#[98,105,110,97,114,121]⟩,.string ⟨#[117,110,100,101,102,105,110,101,100]⟩,.string ⟨#[111,98,106,101,99,116,105,100]⟩,.string ⟨#[98,111,111,108]⟩,.string ⟨#[100,97,116,101]⟩,.string ⟨#[110,117,108,108]⟩,.string ⟨#[114,101,103,101,120]⟩,.string ⟨#[112,111,105,110,116,101,114]⟩,.string ⟨#[99,111,100,101]⟩,.string ⟨#[115,121,109,98,111,108]⟩,.string ⟨#[115,99,111,112,101,100]⟩,.string ⟨#[105,110,116,51,50]⟩,.string ⟨#[116,105,109,101,115,116,97,109,112]⟩,.string ⟨#[105,110,116,54,52]⟩,.string ⟨#[100,101,99,105,109,97,108]⟩,.string ⟨#[109,97,120,107,101,121]⟩,.string ⟨#[109,105,110,107,101,121]⟩]
def kdL:List Int:=[1,2,3,4,5,6,7,8,9,10,11,12,13,14,15,16,17,18,19,127,255]
def kdAt (j:Nat):Int:=kdL.getD j 0
def rnS (n:Nat):ByteArray:=match rnCells[n]? with|some (.string s)=>s|_=>⟨#[]⟩
theorem kd_at (n:Nat) (h:n < 21):kdCells[n]?=some (.int .i64 (kdAt n))∧rnCells[n]?=some (.string (rnS n))∧noTxt (rnS n)=false∧knownK (kdAt n)=true:=by
 have:n=0∨n=1∨n=2∨n=3∨n=4∨n=5∨n=6∨n=7∨n=8∨n=9∨n=10∨n=11∨n=12∨n=13∨n=14∨n=15∨n=16∨n=17∨n=18∨n=19∨n=20:=by omega
 rcases this with rfl|rfl|rfl|rfl|rfl|rfl|rfl|rfl|rfl|rfl|rfl|rfl|rfl|rfl|rfl|rfl|rfl|rfl|rfl|rfl|rfl<;>exact ⟨rfl,rfl,by kernel_rfl,by decide⟩
theorem kd_none (k:Int) (h:∀ m,m < 21→kdAt m≠k):knownK k=false:=by
 have h0:1≠k:=h 0 (by omega)
 have h1:2≠k:=h 1 (by omega)
 have h2:3≠k:=h 2 (by omega)
 have h3:4≠k:=h 3 (by omega)
 have h4:5≠k:=h 4 (by omega)
 have h5:6≠k:=h 5 (by omega)
 have h6:7≠k:=h 6 (by omega)
 have h7:8≠k:=h 7 (by omega)
 have h8:9≠k:=h 8 (by omega)
 have h9:10≠k:=h 9 (by omega)
 have h10:11≠k:=h 10 (by omega)
 have h11:12≠k:=h 11 (by omega)
 have h12:13≠k:=h 12 (by omega)
 have h13:14≠k:=h 13 (by omega)
 have h14:15≠k:=h 14 (by omega)
 have h15:16≠k:=h 15 (by omega)
 have h16:17≠k:=h 16 (by omega)
 have h17:18≠k:=h 17 (by omega)
 have h18:19≠k:=h 18 (by omega)
 have h19:127≠k:=h 19 (by omega)
 have h20:255≠k:=h 20 (by omega)
 simp [knownK]
 omega
set_option maxRecDepth 100000 in
theorem kinds_calls (w:World):Calls Tryz.prog 90 #[] w fun e w'=>e=.returned (.slice (some ⟨w.heap.size,0,none⟩) 21 21)∧w'=w.alloc (.cells kdCells 3):=by
 go_enter Tryz.func90,Tryz.ntmps90
 go_upto_region 1 with fail
 refine wp_region_lit ?_
 refine wpList_plain rfl (fun K hK=>?_)
 refine wp_val (v:=.slice (some ⟨w.heap.size,0,none⟩) 21 21) (w':=w.alloc (.cells kdCells 3)) (by kernel_rfl) (hK _ _ ?_)
 clear hK
 obtain ⟨W,hW⟩:∃ W,W=w.alloc (.cells kdCells 3):=⟨_,rfl⟩
 rw [← hW]
 have HW:=Lib.hid hW
 clear hW
 go_wp2_with fail
 go_ret
 exact ⟨rfl,HW.out⟩
def RnRel (w1:World) (k:Int) (i:Value) (wr:World):Prop:=∃ j:Nat,i=.int .i64 j∧j≤21∧Hid (∀ m,m < j→kdAt m≠k)∧wr=w1
set_option maxRecDepth 100000 in
set_option maxHeartbeats 4000000 in
theorem rname_calls (k:Int) (w:World) :
  Calls Tryz.prog 71 #[.int .i64 k] w fun e w'=>∃ s,e=.returned (.string s)∧noTxt s=!knownK k∧Below w.heap.size w w':=by
 have CK:=Lib.hid (fun W=>kinds_calls W)
 go_enter Tryz.func71,Tryz.ntmps71
 go_upto_region 1 with fail
 refine wp_region_lit ?_
 refine wpList_plain rfl (fun K hK=>?_)
 refine wp_val (v:=.slice (some ⟨w.heap.size,0,none⟩) 21 21) (w':=w.alloc (.cells rnCells 9)) (by kernel_rfl) (hK _ _ ?_)
 clear hK
 obtain ⟨W,hW⟩:∃ W,W=w.alloc (.cells rnCells 9):=⟨_,rfl⟩
 have hb:Below w.heap.size w W:=by rw [hW];exact (Below.refl _ _).alloc (Nat.le_refl _) _
 have hn:Hid (∀ n,n < 21→W.cell? ⟨w.heap.size,n,none⟩=some (.string (rnS n))):=by
  show ∀ n,_
  intro n h
  rw [hW,new_cell]
  exact (kd_at n h).2.1
 have hsz:w.heap.size < W.heap.size:=by rw [hW];simp
 rw [← hW]
 clear hW
 go_wp2_with fail
 refine (CK.out W).mono ?_
 rintro e w1 ⟨rfl,hw1⟩
 have hb1:Below W.heap.size W w1:=by rw [hw1];exact (Below.refl _ _).alloc (Nat.le_refl _) _
 have HB:Hid (Below w.heap.size w w1):=hb.trans (hb1.mono hb.size)
 have HN:Hid (∀ n,n < 21→w1.cell? ⟨w.heap.size,n,none⟩=some (.string (rnS n))):=fun n h=>cell_below hb1 (hn.out n h)
 have HK:Hid (∀ n,n < 21→w1.cell? ⟨W.heap.size,n,none⟩=some (.int .i64 (kdAt n))):=by
  show ∀ n,_
  intro n h
  rw [hw1,new_cell]
  exact (kd_at n h).1
 clear hw1 hb hb1 hn
 go_wp2_with fail
 go_loopw [5] (fun i wr=>RnRel w1 k i wr) (fun i _=>21 - (intOf i).toNat)
 case atStart=>exact ⟨0,rfl,by omega,fun m hm=>absurd hm (Nat.not_lt_zero m),rfl⟩
 case round=>
  obtain ⟨j,rfl,hj,hm,rfl⟩:=hrel
  by_cases hlt:j < 21
  ·have c1:=HK.out j hlt
   have c2:=HN.out j hlt
   obtain ⟨-,-,hs,hk⟩:=kd_at j hlt
   have hj0:(0:Int)≤(j:Int):=by omega
   have hj1:(j:Int) < 21:=by omega
   obtain ⟨x,hx⟩:∃ x,x=kdAt j:=⟨_,rfl⟩
   rw [← hx] at c1 hk
   have HX:=Lib.hid hx
   clear hx
   by_cases he:x=k
   ·have e1:(x == k)=true:=by simpa using he
    have HS:Hid (noTxt (rnS j)=!knownK k):=by show _=_;rw [hs,← he,hk];rfl
    generalize rnS j=s at c2 HS
    clear he hs hk
    go_wp2_with fail
    go_ret
    exact ⟨_,rfl,HS.out,HB.out⟩
   ·have e1:(x == k)=false:=by simpa using he
    have HM:Hid (∀ m,m < j+1→kdAt m≠k):=by
     show ∀ m,_
     intro m h1
     by_cases h2:m=j
     ·subst h2;rw [← HX.out];exact he
     ·exact hm.out m (by omega)
    clear he hs hk c2
    go_wp2_with fail
    go_roundw
    case rel=>exact ⟨j+1,by simp,by omega,HM,rfl⟩
    case measure=>simp [intOf];omega
  ·have HS:Hid (knownK k=false):=kd_none k (fun m h=>hm.out m (by omega))
   have hd:decide ((j:Int) < 21)=false:=by simp;omega
   go_wp2_with fail
   go_ret
   exact ⟨_,rfl,by rw [HS.out];kernel_rfl,HB.out⟩
def hasV (k:Int):Array Value:=#[.bool (hasBits k),.bool (hasWide k),.bool (hasText k),.bool (hasMore k),.bool (hasSub k),.bool (hasBytes k),.bool (hasKids k)]
set_option maxRecDepth 100000 in
set_option maxHeartbeats 8000000 in
theorem has_calls (k:Int) (w:World) :
  Calls Tryz.prog 72 #[.int .i64 k] w fun e w'=>e=.returned (.tuple (hasV k))∧w=w':=by
 by_cases h1:k=1
 ·subst h1
  go_enter Tryz.func72,Tryz.ntmps72
  go_wp2_with fail
  refine bodyPost_ret (v:=.tuple #[.bool true,.bool false,.bool false,.bool false,.bool false,.bool false,.bool false]) (by simp [results,Tryz.results72,go_sem]) rfl ?_
  exact ⟨rfl,rfl⟩
 by_cases h9:k=9
 ·subst h9
  go_enter Tryz.func72,Tryz.ntmps72
  go_wp2_with fail
  refine bodyPost_ret (v:=.tuple #[.bool true,.bool false,.bool false,.bool false,.bool false,.bool false,.bool false]) (by simp [results,Tryz.results72,go_sem]) rfl ?_
  exact ⟨rfl,rfl⟩
 by_cases h17:k=17
 ·subst h17
  go_enter Tryz.func72,Tryz.ntmps72
  go_wp2_with fail
  refine bodyPost_ret (v:=.tuple #[.bool true,.bool false,.bool false,.bool false,.bool false,.bool false,.bool false]) (by simp [results,Tryz.results72,go_sem]) rfl ?_
  exact ⟨rfl,rfl⟩
 by_cases h18:k=18
 ·subst h18
  go_enter Tryz.func72,Tryz.ntmps72
  go_wp2_with fail
  refine bodyPost_ret (v:=.tuple #[.bool true,.bool false,.bool false,.bool false,.bool false,.bool false,.bool false]) (by simp [results,Tryz.results72,go_sem]) rfl ?_
  exact ⟨rfl,rfl⟩
 by_cases h16:k=16
 ·subst h16
  go_enter Tryz.func72,Tryz.ntmps72
  go_wp2_with fail
  refine bodyPost_ret (v:=.tuple #[.bool true,.bool false,.bool false,.bool false,.bool false,.bool false,.bool false]) (by simp [results,Tryz.results72,go_sem]) rfl ?_
  exact ⟨rfl,rfl⟩
 by_cases h8:k=8
 ·subst h8
  go_enter Tryz.func72,Tryz.ntmps72
  go_wp2_with fail
  refine bodyPost_ret (v:=.tuple #[.bool true,.bool false,.bool false,.bool false,.bool false,.bool false,.bool false]) (by simp [results,Tryz.results72,go_sem]) rfl ?_
  exact ⟨rfl,rfl⟩
 by_cases h19:k=19
 ·subst h19
  go_enter Tryz.func72,Tryz.ntmps72
  go_wp2_with fail
  refine bodyPost_ret (v:=.tuple #[.bool false,.bool true,.bool false,.bool false,.bool false,.bool false,.bool false]) (by simp [results,Tryz.results72,go_sem]) rfl ?_
  exact ⟨rfl,rfl⟩
 by_cases h2:k=2
 ·subst h2
  go_enter Tryz.func72,Tryz.ntmps72
  go_wp2_with fail
  refine bodyPost_ret (v:=.tuple #[.bool false,.bool false,.bool true,.bool false,.bool false,.bool false,.bool false]) (by simp [results,Tryz.results72,go_sem]) rfl ?_
  exact ⟨rfl,rfl⟩
 by_cases h13:k=13
 ·subst h13
  go_enter Tryz.func72,Tryz.ntmps72
  go_wp2_with fail
  refine bodyPost_ret (v:=.tuple #[.bool false,.bool false,.bool true,.bool false,.bool false,.bool false,.bool false]) (by simp [results,Tryz.results72,go_sem]) rfl ?_
  exact ⟨rfl,rfl⟩
 by_cases h14:k=14
 ·subst h14
  go_enter Tryz.func72,Tryz.ntmps72
  go_wp2_with fail
  refine bodyPost_ret (v:=.tuple #[.bool false,.bool false,.bool true,.bool false,.bool false,.bool false,.bool false]) (by simp [results,Tryz.results72,go_sem]) rfl ?_
  exact ⟨rfl,rfl⟩
 by_cases h11:k=11
 ·subst h11
  go_enter Tryz.func72,Tryz.ntmps72
  go_wp2_with fail
  refine bodyPost_ret (v:=.tuple #[.bool false,.bool false,.bool true,.bool true,.bool false,.bool false,.bool false]) (by simp [results,Tryz.results72,go_sem]) rfl ?_
  exact ⟨rfl,rfl⟩
 by_cases h5:k=5
 ·subst h5
  go_enter Tryz.func72,Tryz.ntmps72
  go_wp2_with fail
  refine bodyPost_ret (v:=.tuple #[.bool false,.bool false,.bool false,.bool false,.bool true,.bool true,.bool false]) (by simp [results,Tryz.results72,go_sem]) rfl ?_
  exact ⟨rfl,rfl⟩
 by_cases h7:k=7
 ·subst h7
  go_enter Tryz.func72,Tryz.ntmps72
  go_wp2_with fail
  refine bodyPost_ret (v:=.tuple #[.bool false,.bool false,.bool false,.bool false,.bool false,.bool true,.bool false]) (by simp [results,Tryz.results72,go_sem]) rfl ?_
  exact ⟨rfl,rfl⟩
 by_cases h12:k=12
 ·subst h12
  go_enter Tryz.func72,Tryz.ntmps72
  go_wp2_with fail
  refine bodyPost_ret (v:=.tuple #[.bool false,.bool false,.bool true,.bool false,.bool false,.bool true,.bool false]) (by simp [results,Tryz.results72,go_sem]) rfl ?_
  exact ⟨rfl,rfl⟩
 by_cases h3:k=3
 ·subst h3
  go_enter Tryz.func72,Tryz.ntmps72
  go_wp2_with fail
  refine bodyPost_ret (v:=.tuple #[.bool false,.bool false,.bool false,.bool false,.bool false,.bool false,.bool true]) (by simp [results,Tryz.results72,go_sem]) rfl ?_
  exact ⟨rfl,rfl⟩
 by_cases h4:k=4
 ·subst h4
  go_enter Tryz.func72,Tryz.ntmps72
  go_wp2_with fail
  refine bodyPost_ret (v:=.tuple #[.bool false,.bool false,.bool false,.bool false,.bool false,.bool false,.bool true]) (by simp [results,Tryz.results72,go_sem]) rfl ?_
  exact ⟨rfl,rfl⟩
 by_cases h15:k=15
 ·subst h15
  go_enter Tryz.func72,Tryz.ntmps72
  go_wp2_with fail
  refine bodyPost_ret (v:=.tuple #[.bool false,.bool false,.bool true,.bool false,.bool false,.bool false,.bool true]) (by simp [results,Tryz.results72,go_sem]) rfl ?_
  exact ⟨rfl,rfl⟩
 have n1:(k == 1)=false:=by simpa using h1
 have n9:(k == 9)=false:=by simpa using h9
 have n17:(k == 17)=false:=by simpa using h17
 have n18:(k == 18)=false:=by simpa using h18
 have n16:(k == 16)=false:=by simpa using h16
 have n8:(k == 8)=false:=by simpa using h8
 have n19:(k == 19)=false:=by simpa using h19
 have n2:(k == 2)=false:=by simpa using h2
 have n13:(k == 13)=false:=by simpa using h13
 have n14:(k == 14)=false:=by simpa using h14
 have n11:(k == 11)=false:=by simpa using h11
 have n5:(k == 5)=false:=by simpa using h5
 have n7:(k == 7)=false:=by simpa using h7
 have n12:(k == 12)=false:=by simpa using h12
 have n3:(k == 3)=false:=by simpa using h3
 have n4:(k == 4)=false:=by simpa using h4
 have n15:(k == 15)=false:=by simpa using h15
 have hv:hasV k=#[.bool false,.bool false,.bool false,.bool false,.bool false,.bool false,.bool false]:=by simp [hasV,hasBits,hasWide,hasText,hasMore,hasSub,hasBytes,hasKids,n1,n9,n17,n18,n16,n8,n19,n2,n13,n14,n11,n5,n7,n12,n3,n4,n15]
 rw [hv]
 clear hv
 go_enter Tryz.func72,Tryz.ntmps72
 go_wp2_with fail
 refine bodyPost_ret (v:=.tuple #[.bool false,.bool false,.bool false,.bool false,.bool false,.bool false,.bool false]) (by simp [results,Tryz.results72,go_sem]) rfl ?_
 exact ⟨rfl,rfl⟩
def zeroIn:List UInt8→Nat
 | []=>0
 | b::r=>if b=0 then 0 else zeroIn r+1
theorem zeroIn_le:∀ l,zeroIn l≤l.length
 | []=>by simp [zeroIn]
 | b::r=>by
  have:=zeroIn_le r
  simp only [zeroIn,List.length_cons]
  split<;>omega
def hasZ (l:List UInt8):Bool:=decide (zeroIn l < l.length)
def textOk (plain:Bool) (l:List UInt8):Bool:=(wholeTo l == l.length) && !(plain && hasZ l)
theorem zero_here:∀ (l:List UInt8) (k:Nat),k≤zeroIn l→k < l.length→(l.getD k 0=0 ↔ k=zeroIn l)
 | [],k,_,h=>by simp at h
 | b::r,0,hk,h=>by
  simp only [zeroIn,List.getD_cons_zero]
  by_cases hb:b=0
  ·simp [hb]
  ·simp [hb]
 | b::r,k+1,hk,h=>by
  have hb:b≠0:=by
   rintro rfl
   simp [zeroIn] at hk
  have hz:zeroIn (b::r)=zeroIn r+1:=by simp only [zeroIn];rw [if_neg hb]
  rw [hz,List.getD_cons_succ,zero_here r k (by omega) (by simpa using h)]
  omega
def ZerRel (w:World) (l:List UInt8) (i:Value) (wr:World):Prop:=∃ k:Nat,i=.int .i64 k∧k≤zeroIn l∧wr=w
set_option maxHeartbeats 1000000 in
set_option maxRecDepth 100000 in
theorem rzero_calls (s:ByteArray) (w:World) (hs:s.size≤1048576) :
  Calls Tryz.prog 73 #[.string s] w fun e w'=>e=.returned (.bool (hasZ (sl s)))∧w=w':=by
 have HL:=Lib.hid (zeroIn_le (sl s))
 have HS:=Lib.hid (sl_len s)
 go_enter Tryz.func73,Tryz.ntmps73
 go_wp2_with fail
 go_loopw [3] (fun i wr=>ZerRel w (sl s) i wr) (fun i _=>s.size - (intOf i).toNat)
 case atStart=>exact ⟨0,rfl,Nat.zero_le _,rfl⟩
 case round=>
  obtain ⟨k,rfl,hk,rfl⟩:=hrel
  have HK:=Lib.hid hk
  by_cases hlt:k < s.size
  ·have hh:=zero_here (sl s) k hk (by rw [sl_len];exact hlt)
   rw [sl_at hlt] at hh
   by_cases hz:k=zeroIn (sl s)
   ·have h0:s[k]'hlt=0:=hh.2 hz
    have hb:(((s[k]'hlt).toNat:Int) == 0)=true:=by rw [h0];rfl
    have HZ:Hid (hasZ (sl s)=true):=by
     show _=_
     unfold hasZ
     rw [← hz,sl_len]
     simpa using hlt
    clear hh hz h0 hk
    go_wp2_with fail
    go_ret
    exact ⟨by rw [HZ.out];rfl,rfl⟩
   ·have h0:¬ s[k]'hlt=0:=fun e=>hz (hh.1 e)
    have hb:(((s[k]'hlt).toNat:Int) == 0)=false:=by
     rw [beq_eq_false_iff_ne]
     intro e
     apply h0
     apply UInt8.toNat_inj.1
     have:(s[k]'hlt).toNat=0:=by omega
     rw [this];rfl
    have HKN:Hid (k+1≤zeroIn (sl s)):=by show _≤_;omega
    clear hh hz h0 hk
    go_wp2_with fail
    go_roundw
    case rel=>exact ⟨k+1,by simp,HKN.out,rfl⟩
    case measure=>simp [intOf];omega
  ·have HZ:Hid (hasZ (sl s)=false):=by
    show _=_
    unfold hasZ
    rw [HS.out]
    simp only [decide_eq_false_iff_not]
    omega
   clear hk
   go_wp2_with fail
   go_ret
   exact ⟨by rw [HZ.out];rfl,rfl⟩
set_option maxHeartbeats 1000000 in
set_option maxRecDepth 100000 in
theorem named_calls (s:ByteArray) (w:World) (hs:s.size≤1048576) :
  Calls Tryz.prog 52 #[.string s] w fun e w'=>e=.returned (.bool (textOk true (sl s)))∧Below w.heap.size w w':=by
 have C:=Lib.hid (rwhole_calls s hs w)
 have CZ:=Lib.hid (fun W=>rzero_calls s W hs)
 have ht:textOk true (sl s)=((wholeTo (sl s) == s.size) && !hasZ (sl s)):=by unfold textOk;rw [sl_len];simp
 rw [ht]
 generalize (wholeTo (sl s) == s.size)=b at C
 generalize hasZ (sl s)=z at CZ
 clear ht
 cases b with
 | false=>
  go_enter Tryz.func52,Tryz.ntmps52
  go_wp2_with fail
  refine C.out.mono ?_
  rintro e w1 ⟨rfl,hb1⟩
  go_wp2_with fail
  go_ret
  exact ⟨rfl,hb1⟩
 | true=>
  go_enter Tryz.func52,Tryz.ntmps52
  go_wp2_with fail
  refine C.out.mono ?_
  rintro e w1 ⟨rfl,hb1⟩
  go_wp2_with fail
  refine (CZ.out w1).mono ?_
  rintro e w2 ⟨rfl,rfl⟩
  go_wp2_with fail
  go_ret
  exact ⟨by cases z<;>rfl,hb1⟩
def zerosOf (k:Int) (bits hi lo:Nat) (text more:ByteArray) (sub:Int) (nb nk:Nat):Bool:=
 (hasBits k || bits == 0) && (hasWide k || hi == 0) && (hasWide k || lo == 0) && (hasText k || text.toList == []) && (hasMore k || more.toList == []) && (hasSub k || sub == 0) && (hasBytes k || nb == 0) && (hasKids k || nk == 0)
def ok2 (k:Int) (bits:Nat) (sub:Int) (nb:Nat):Bool:=!(k == 16 && decide (4294967296≤bits)) && !(k == 8 && decide (2≤bits)) && !decide (sub < 0) && !decide (255 < sub) && !((k == 7 || k == 12) && !(nb == 12))
theorem fields_zeros (k:Int) (bits hi lo:Nat) (text more:ByteArray) (sub:Int) (nb nk:Nat):fieldsOf k bits hi lo text more sub nb nk=(okK k bits sub nb && zerosOf k bits hi lo text more sub nb nk):=by
 simp only [fieldsOf,zerosOf,Bool.and_assoc]
theorem ok_two (k:Int) (bits hi lo:Nat) (text more:ByteArray) (sub:Int) (nb nk:Nat) (h:zerosOf k bits hi lo text more sub nb nk=true):okK k bits sub nb=ok2 k bits sub nb:=by
 simp only [zerosOf,Bool.and_eq_true] at h
 have h5:=h.1.1.2
 by_cases hk:k=5
 ·subst hk
  unfold okK ok2
  rw [Bool.eq_iff_iff]
  simp
 ·have:sub=0:=by simpa [hasSub,hk] using h5
  subst this
  unfold okK ok2
  simp [hk]
theorem fields_two (k:Int) (bits hi lo:Nat) (text more:ByteArray) (sub:Int) (nb nk:Nat):fieldsOf k bits hi lo text more sub nb nk=(zerosOf k bits hi lo text more sub nb nk && ok2 k bits sub nb):=by
 rw [fields_zeros]
 cases hz:zerosOf k bits hi lo text more sub nb nk with
 | false=>simp
 | true=>rw [ok_two _ _ _ _ _ _ _ _ _ hz];simp
def ownEZ (k:Int) (bits hi lo:Nat) (text more:ByteArray) (sub:Int) (nb nk:Nat):Nat:=
 if knownK k=false then 5 else if zerosOf k bits hi lo text more sub nb nk=false then 1 else if ok2 k bits sub nb=false then 1 else if (textOk (k == 11) (sl text) && textOk (k == 11) (sl more))=false then 4 else 0
theorem has_vec (k:Int) (q1 q2 q3 q4 q5 q6 q7:Bool) (e1:q1=hasBits k) (e2:q2=hasWide k) (e3:q3=hasText k) (e4:q4=hasMore k) (e5:q5=hasSub k) (e6:q6=hasBytes k) (e7:q7=hasKids k) :
  (q1=true∧q2=false∧q3=false∧q4=false∧q5=false∧q6=false∧q7=false)∨(q1=false∧q2=true∧q3=false∧q4=false∧q5=false∧q6=false∧q7=false)∨(q1=false∧q2=false∧q3=true∧q4=false∧q5=false∧q6=false∧q7=false)∨(q1=false∧q2=false∧q3=true∧q4=true∧q5=false∧q6=false∧q7=false)∨(q1=false∧q2=false∧q3=false∧q4=false∧q5=true∧q6=true∧q7=false)∨(q1=false∧q2=false∧q3=false∧q4=false∧q5=false∧q6=true∧q7=false)∨(q1=false∧q2=false∧q3=true∧q4=false∧q5=false∧q6=true∧q7=false)∨(q1=false∧q2=false∧q3=false∧q4=false∧q5=false∧q6=false∧q7=true)∨(q1=false∧q2=false∧q3=true∧q4=false∧q5=false∧q6=false∧q7=true)∨(q1=false∧q2=false∧q3=false∧q4=false∧q5=false∧q6=false∧q7=false):=by
 by_cases h1:k=1
 ·subst h1;exact .inl ⟨by rw [e1];rfl,by rw [e2];rfl,by rw [e3];rfl,by rw [e4];rfl,by rw [e5];rfl,by rw [e6];rfl,by rw [e7];rfl⟩
 by_cases h9:k=9
 ·subst h9;exact .inl ⟨by rw [e1];rfl,by rw [e2];rfl,by rw [e3];rfl,by rw [e4];rfl,by rw [e5];rfl,by rw [e6];rfl,by rw [e7];rfl⟩
 by_cases h17:k=17
 ·subst h17;exact .inl ⟨by rw [e1];rfl,by rw [e2];rfl,by rw [e3];rfl,by rw [e4];rfl,by rw [e5];rfl,by rw [e6];rfl,by rw [e7];rfl⟩
 by_cases h18:k=18
 ·subst h18;exact .inl ⟨by rw [e1];rfl,by rw [e2];rfl,by rw [e3];rfl,by rw [e4];rfl,by rw [e5];rfl,by rw [e6];rfl,by rw [e7];rfl⟩
 by_cases h16:k=16
 ·subst h16;exact .inl ⟨by rw [e1];rfl,by rw [e2];rfl,by rw [e3];rfl,by rw [e4];rfl,by rw [e5];rfl,by rw [e6];rfl,by rw [e7];rfl⟩
 by_cases h8:k=8
 ·subst h8;exact .inl ⟨by rw [e1];rfl,by rw [e2];rfl,by rw [e3];rfl,by rw [e4];rfl,by rw [e5];rfl,by rw [e6];rfl,by rw [e7];rfl⟩
 by_cases h19:k=19
 ·subst h19;exact .inr (.inl ⟨by rw [e1];rfl,by rw [e2];rfl,by rw [e3];rfl,by rw [e4];rfl,by rw [e5];rfl,by rw [e6];rfl,by rw [e7];rfl⟩)
 by_cases h2:k=2
 ·subst h2;exact .inr (.inr (.inl ⟨by rw [e1];rfl,by rw [e2];rfl,by rw [e3];rfl,by rw [e4];rfl,by rw [e5];rfl,by rw [e6];rfl,by rw [e7];rfl⟩))
 by_cases h13:k=13
 ·subst h13;exact .inr (.inr (.inl ⟨by rw [e1];rfl,by rw [e2];rfl,by rw [e3];rfl,by rw [e4];rfl,by rw [e5];rfl,by rw [e6];rfl,by rw [e7];rfl⟩))
 by_cases h14:k=14
 ·subst h14;exact .inr (.inr (.inl ⟨by rw [e1];rfl,by rw [e2];rfl,by rw [e3];rfl,by rw [e4];rfl,by rw [e5];rfl,by rw [e6];rfl,by rw [e7];rfl⟩))
 by_cases h11:k=11
 ·subst h11;exact .inr (.inr (.inr (.inl ⟨by rw [e1];rfl,by rw [e2];rfl,by rw [e3];rfl,by rw [e4];rfl,by rw [e5];rfl,by rw [e6];rfl,by rw [e7];rfl⟩)))
 by_cases h5:k=5
 ·subst h5;exact .inr (.inr (.inr (.inr (.inl ⟨by rw [e1];rfl,by rw [e2];rfl,by rw [e3];rfl,by rw [e4];rfl,by rw [e5];rfl,by rw [e6];rfl,by rw [e7];rfl⟩))))
 by_cases h7:k=7
 ·subst h7;exact .inr (.inr (.inr (.inr (.inr (.inl ⟨by rw [e1];rfl,by rw [e2];rfl,by rw [e3];rfl,by rw [e4];rfl,by rw [e5];rfl,by rw [e6];rfl,by rw [e7];rfl⟩)))))
 by_cases h12:k=12
 ·subst h12;exact .inr (.inr (.inr (.inr (.inr (.inr (.inl ⟨by rw [e1];rfl,by rw [e2];rfl,by rw [e3];rfl,by rw [e4];rfl,by rw [e5];rfl,by rw [e6];rfl,by rw [e7];rfl⟩))))))
 by_cases h3:k=3
 ·subst h3;exact .inr (.inr (.inr (.inr (.inr (.inr (.inr (.inl ⟨by rw [e1];rfl,by rw [e2];rfl,by rw [e3];rfl,by rw [e4];rfl,by rw [e5];rfl,by rw [e6];rfl,by rw [e7];rfl⟩)))))))
 by_cases h4:k=4
 ·subst h4;exact .inr (.inr (.inr (.inr (.inr (.inr (.inr (.inl ⟨by rw [e1];rfl,by rw [e2];rfl,by rw [e3];rfl,by rw [e4];rfl,by rw [e5];rfl,by rw [e6];rfl,by rw [e7];rfl⟩)))))))
 by_cases h15:k=15
 ·subst h15;exact .inr (.inr (.inr (.inr (.inr (.inr (.inr (.inr (.inl ⟨by rw [e1];rfl,by rw [e2];rfl,by rw [e3];rfl,by rw [e4];rfl,by rw [e5];rfl,by rw [e6];rfl,by rw [e7];rfl⟩))))))))
 exact .inr (.inr (.inr (.inr (.inr (.inr (.inr (.inr (.inr (⟨by rw [e1];simp [hasBits,hasWide,hasText,hasMore,hasSub,hasBytes,hasKids,h1,h9,h17,h18,h16,h8,h19,h2,h13,h14,h11,h5,h7,h12,h3,h4,h15],by rw [e2];simp [hasBits,hasWide,hasText,hasMore,hasSub,hasBytes,hasKids,h1,h9,h17,h18,h16,h8,h19,h2,h13,h14,h11,h5,h7,h12,h3,h4,h15],by rw [e3];simp [hasBits,hasWide,hasText,hasMore,hasSub,hasBytes,hasKids,h1,h9,h17,h18,h16,h8,h19,h2,h13,h14,h11,h5,h7,h12,h3,h4,h15],by rw [e4];simp [hasBits,hasWide,hasText,hasMore,hasSub,hasBytes,hasKids,h1,h9,h17,h18,h16,h8,h19,h2,h13,h14,h11,h5,h7,h12,h3,h4,h15],by rw [e5];simp [hasBits,hasWide,hasText,hasMore,hasSub,hasBytes,hasKids,h1,h9,h17,h18,h16,h8,h19,h2,h13,h14,h11,h5,h7,h12,h3,h4,h15],by rw [e6];simp [hasBits,hasWide,hasText,hasMore,hasSub,hasBytes,hasKids,h1,h9,h17,h18,h16,h8,h19,h2,h13,h14,h11,h5,h7,h12,h3,h4,h15],by rw [e7];simp [hasBits,hasWide,hasText,hasMore,hasSub,hasBytes,hasKids,h1,h9,h17,h18,h16,h8,h19,h2,h13,h14,h11,h5,h7,h12,h3,h4,h15]⟩)))))))))
set_option maxRecDepth 100000 in
set_option maxHeartbeats 64000000 in
theorem rown_calls (w:World) (k:Int) (bits hi lo:Nat) (text more:ByteArray) (sub:Int) (ab:Option Addr) (nb cb:Nat) (ak:Option Addr) (nk ck:Nat) (ht:text.size≤1000000) (hmo:more.size≤1000000) :
  Calls Tryz.prog 51 #[.agg (valCells k bits hi lo text more sub ab nb cb ak nk ck)] w fun e w'=>e=.returned (.int .i64 (ownEZ k bits hi lo text more sub nb nk:Nat))∧Below w.heap.size w w':=by
 obtain ⟨E,hE⟩:∃ E,E=ownEZ k bits hi lo text more sub nb nk:=⟨_,rfl⟩
 rw [← hE]
 obtain ⟨kn,hkn⟩:∃ x,x=knownK k:=⟨_,rfl⟩
 obtain ⟨D1,hD1⟩:∃ x,x=!zerosOf k bits hi lo text more sub nb nk:=⟨_,rfl⟩
 obtain ⟨D2,hD2⟩:∃ x,x=!ok2 k bits sub nb:=⟨_,rfl⟩
 obtain ⟨rx,hrx⟩:∃ x,x=(k == 11):=⟨_,rfl⟩
 obtain ⟨b1,hb1⟩:∃ x,x=(wholeTo (sl text) == text.size):=⟨_,rfl⟩
 obtain ⟨b2,hb2⟩:∃ x,x=(wholeTo (sl more) == more.size):=⟨_,rfl⟩
 obtain ⟨z1,hz1⟩:∃ x,x=hasZ (sl text):=⟨_,rfl⟩
 obtain ⟨z2,hz2⟩:∃ x,x=hasZ (sl more):=⟨_,rfl⟩
 have CN:=Lib.hid (fun W=>rname_calls k W)
 have CH:=Lib.hid (fun W=>has_calls k W)
 have W1:=Lib.hid (fun W=>rwhole_calls text (by omega) W)
 have W2:=Lib.hid (fun W=>rwhole_calls more (by omega) W)
 have Z1:=Lib.hid (fun W=>rzero_calls text W (by omega))
 have Z2:=Lib.hid (fun W=>rzero_calls more W (by omega))
 rw [← hkn] at CN
 rw [← hb1] at W1
 rw [← hb2] at W2
 rw [← hz1] at Z1
 rw [← hz2] at Z2
 have hEE:E=if kn=false then 5 else if D1=true then 1 else if D2=true then 1 else if ((b1 && !(rx && z1)) && (b2 && !(rx && z2)))=false then 4 else 0:=by
  rw [hE,hkn,hD1,hD2,hrx,hb1,hb2,hz1,hz2]
  unfold ownEZ textOk
  rw [sl_len,sl_len]
  cases zerosOf k bits hi lo text more sub nb nk<;>cases ok2 k bits sub nb<;>rfl
 have HEE:=Lib.hid hEE
 obtain ⟨q1,hq1⟩:∃ x,x=hasBits k:=⟨_,rfl⟩
 obtain ⟨q2,hq2⟩:∃ x,x=hasWide k:=⟨_,rfl⟩
 obtain ⟨q3,hq3⟩:∃ x,x=hasText k:=⟨_,rfl⟩
 obtain ⟨q4,hq4⟩:∃ x,x=hasMore k:=⟨_,rfl⟩
 obtain ⟨q5,hq5⟩:∃ x,x=hasSub k:=⟨_,rfl⟩
 obtain ⟨q6,hq6⟩:∃ x,x=hasBytes k:=⟨_,rfl⟩
 obtain ⟨q7,hq7⟩:∃ x,x=hasKids k:=⟨_,rfl⟩
 have hv:hasV k=#[.bool q1,.bool q2,.bool q3,.bool q4,.bool q5,.bool q6,.bool q7]:=by unfold hasV;rw [← hq1,← hq2,← hq3,← hq4,← hq5,← hq6,← hq7]
 rw [hv] at CH
 have HVEC:=Lib.hid (has_vec k q1 q2 q3 q4 q5 q6 q7 hq1 hq2 hq3 hq4 hq5 hq6 hq7)
 have HD1:Hid (D1=!((q1 || bits == 0) && (q2 || hi == 0) && (q2 || lo == 0) && (q3 || text.toList == []) && (q4 || more.toList == []) && (q5 || sub == 0) && (q6 || nb == 0) && (q7 || nk == 0))):=by
  show _=_
  rw [hD1];unfold zerosOf;rw [← hq1,← hq2,← hq3,← hq4,← hq5,← hq6,← hq7]
 have HD2:Hid (D2=!ok2 k bits sub nb):=hD2
 have HRX:Hid ((k == 11)=rx):=hrx.symm
 have HB0:Hid (Below w.heap.size w (w.alloc (.cells (valCells k bits hi lo text more sub ab nb cb ak nk ck) 26))):=(Below.refl _ _).alloc (Nat.le_refl _) _
 have HX0:Hid (BoxV (w.alloc (.cells (valCells k bits hi lo text more sub ab nb cb ak nk ck) 26)) w.heap.size (valCells k bits hi lo text more sub ab nb cb ak nk ck)):=BoxV.new _ _ _
 clear hE hkn hD1 hD2 hrx hb1 hb2 hz1 hz2 hEE hq1 hq2 hq3 hq4 hq5 hq6 hq7 hv ht hmo
 obtain ⟨f0,f1,f2,f3,f4,f5,f6,f7,f8,l0⟩:=HX0.out.nine
 cases kn with
 | false=>
  have HE:Hid (E=5):=HEE.out
  clear HEE
  go_enter Tryz.func51,Tryz.ntmps51
  go_wp2_with fail
  refine (CN.out _).mono ?_
  rintro e w1 ⟨s1,rfl,hs1,hb1⟩
  have hs1:(s1.toList == [])=true:=hs1
  have HB1:Hid (Below w.heap.size w w1):=HB0.out.trans (hb1.mono HB0.out.size)
  clear hb1 f0 f1 f2 f3 f4 f5 f6 f7 f8 l0
  go_wp2_with fail
  go_ret
  exact ⟨by rw [HE.out];rfl,HB1.out⟩
 | true=>
 go_enter Tryz.func51,Tryz.ntmps51
 go_wp2_with fail
 refine (CN.out _).mono ?_
 rintro e w1 ⟨s1,rfl,hs1,hb1⟩
 have hs1:(s1.toList == [])=false:=hs1
 have HB1:Hid (Below w.heap.size w w1):=HB0.out.trans (hb1.mono HB0.out.size)
 have HX1:=Lib.hid (HX0.out.keep hb1)
 clear hb1 f0 f1 f2 f3 f4 f5 f6 f7 f8 l0
 obtain ⟨f0,f1,f2,f3,f4,f5,f6,f7,f8,l0⟩:=HX1.out.nine
 go_wp2_with fail
 refine (CH.out _).mono ?_
 rintro e w2 ⟨rfl,rfl⟩
 clear hs1 CN CH
 go_upto_region 4 with fail
 simp only [List.append_eq,List.cons_append,List.nil_append]
 go_cut [92] from 25 to 92 (fun p92 W=>p92=.bool D1∧W=w1)
 case first=>
  rcases HVEC.out with ⟨rfl,rfl,rfl,rfl,rfl,rfl,rfl⟩|⟨rfl,rfl,rfl,rfl,rfl,rfl,rfl⟩|⟨rfl,rfl,rfl,rfl,rfl,rfl,rfl⟩|⟨rfl,rfl,rfl,rfl,rfl,rfl,rfl⟩|⟨rfl,rfl,rfl,rfl,rfl,rfl,rfl⟩|⟨rfl,rfl,rfl,rfl,rfl,rfl,rfl⟩|⟨rfl,rfl,rfl,rfl,rfl,rfl,rfl⟩|⟨rfl,rfl,rfl,rfl,rfl,rfl,rfl⟩|⟨rfl,rfl,rfl,rfl,rfl,rfl,rfl⟩|⟨rfl,rfl,rfl,rfl,rfl,rfl,rfl⟩
  ·as_aux_lemma=>
   by_cases hhi:hi=0
   case neg=>
    have e1:((hi:Int) != 0)=true:=by simpa using hhi
    have HF:Hid (D1=true):=by show _=_;rw [HD1.out];simp [hhi]
    go_wp2_with fail
    go_meet
    case rel=>exact ⟨by rw [HF.out],rfl⟩
   subst hhi
   by_cases hlo:lo=0
   case neg=>
    have e1:((lo:Int) != 0)=true:=by simpa using hlo
    have HF:Hid (D1=true):=by show _=_;rw [HD1.out];simp [hlo]
    go_wp2_with fail
    go_meet
    case rel=>exact ⟨by rw [HF.out],rfl⟩
   subst hlo
   cases ttext:(text.toList == []) with
   | false=>
    have e1:(text.toList != [])=true:=by unfold bne;rw [ttext];rfl
    have HF:Hid (D1=true):=by show _=_;rw [HD1.out,ttext];simp
    go_wp2_with fail
    go_meet
    case rel=>exact ⟨by rw [HF.out],rfl⟩
   | true=>
   have gtext:(text.toList != [])=false:=by unfold bne;rw [ttext];rfl
   cases tmore:(more.toList == []) with
   | false=>
    have e1:(more.toList != [])=true:=by unfold bne;rw [tmore];rfl
    have HF:Hid (D1=true):=by show _=_;rw [HD1.out,tmore];simp
    go_wp2_with fail
    go_meet
    case rel=>exact ⟨by rw [HF.out],rfl⟩
   | true=>
   have gmore:(more.toList != [])=false:=by unfold bne;rw [tmore];rfl
   by_cases hsub:sub=0
   case neg=>
    have e1:(sub != 0)=true:=by simpa using hsub
    have HF:Hid (D1=true):=by show _=_;rw [HD1.out];simp [hsub,ttext,tmore]
    go_wp2_with fail
    go_meet
    case rel=>exact ⟨by rw [HF.out],rfl⟩
   subst hsub
   by_cases hnb:nb=0
   case neg=>
    have e1:decide ((0:Int) < (nb:Int))=true:=by simp;omega
    have e2:0 < nb:=by omega
    have HF:Hid (D1=true):=by show _=_;rw [HD1.out];simp [hnb,ttext,tmore]
    go_wp2_with fail
    go_meet
    case rel=>exact ⟨by rw [HF.out],rfl⟩
   subst hnb
   by_cases hnk:nk=0
   case neg=>
    have e1:decide ((0:Int) < (nk:Int))=true:=by simp;omega
    have e2:0 < nk:=by omega
    have HF:Hid (D1=true):=by show _=_;rw [HD1.out];simp [hnk,ttext,tmore]
    go_wp2_with fail
    go_meet
    case rel=>exact ⟨by rw [HF.out],rfl⟩
   subst hnk
   have HF:Hid (D1=false):=by show _=_;rw [HD1.out,ttext,tmore];rfl
   go_wp2_with fail
   go_meet
   case rel=>exact ⟨by rw [HF.out],rfl⟩
  ·as_aux_lemma=>
   by_cases hbits:bits=0
   case neg=>
    have e1:((bits:Int) != 0)=true:=by simpa using hbits
    have HF:Hid (D1=true):=by show _=_;rw [HD1.out];simp [hbits]
    go_wp2_with fail
    go_meet
    case rel=>exact ⟨by rw [HF.out],rfl⟩
   subst hbits
   cases ttext:(text.toList == []) with
   | false=>
    have e1:(text.toList != [])=true:=by unfold bne;rw [ttext];rfl
    have HF:Hid (D1=true):=by show _=_;rw [HD1.out,ttext];simp
    go_wp2_with fail
    go_meet
    case rel=>exact ⟨by rw [HF.out],rfl⟩
   | true=>
   have gtext:(text.toList != [])=false:=by unfold bne;rw [ttext];rfl
   cases tmore:(more.toList == []) with
   | false=>
    have e1:(more.toList != [])=true:=by unfold bne;rw [tmore];rfl
    have HF:Hid (D1=true):=by show _=_;rw [HD1.out,tmore];simp
    go_wp2_with fail
    go_meet
    case rel=>exact ⟨by rw [HF.out],rfl⟩
   | true=>
   have gmore:(more.toList != [])=false:=by unfold bne;rw [tmore];rfl
   by_cases hsub:sub=0
   case neg=>
    have e1:(sub != 0)=true:=by simpa using hsub
    have HF:Hid (D1=true):=by show _=_;rw [HD1.out];simp [hsub,ttext,tmore]
    go_wp2_with fail
    go_meet
    case rel=>exact ⟨by rw [HF.out],rfl⟩
   subst hsub
   by_cases hnb:nb=0
   case neg=>
    have e1:decide ((0:Int) < (nb:Int))=true:=by simp;omega
    have e2:0 < nb:=by omega
    have HF:Hid (D1=true):=by show _=_;rw [HD1.out];simp [hnb,ttext,tmore]
    go_wp2_with fail
    go_meet
    case rel=>exact ⟨by rw [HF.out],rfl⟩
   subst hnb
   by_cases hnk:nk=0
   case neg=>
    have e1:decide ((0:Int) < (nk:Int))=true:=by simp;omega
    have e2:0 < nk:=by omega
    have HF:Hid (D1=true):=by show _=_;rw [HD1.out];simp [hnk,ttext,tmore]
    go_wp2_with fail
    go_meet
    case rel=>exact ⟨by rw [HF.out],rfl⟩
   subst hnk
   have HF:Hid (D1=false):=by show _=_;rw [HD1.out,ttext,tmore];rfl
   go_wp2_with fail
   go_meet
   case rel=>exact ⟨by rw [HF.out],rfl⟩
  ·as_aux_lemma=>
   by_cases hbits:bits=0
   case neg=>
    have e1:((bits:Int) != 0)=true:=by simpa using hbits
    have HF:Hid (D1=true):=by show _=_;rw [HD1.out];simp [hbits]
    go_wp2_with fail
    go_meet
    case rel=>exact ⟨by rw [HF.out],rfl⟩
   subst hbits
   by_cases hhi:hi=0
   case neg=>
    have e1:((hi:Int) != 0)=true:=by simpa using hhi
    have HF:Hid (D1=true):=by show _=_;rw [HD1.out];simp [hhi]
    go_wp2_with fail
    go_meet
    case rel=>exact ⟨by rw [HF.out],rfl⟩
   subst hhi
   by_cases hlo:lo=0
   case neg=>
    have e1:((lo:Int) != 0)=true:=by simpa using hlo
    have HF:Hid (D1=true):=by show _=_;rw [HD1.out];simp [hlo]
    go_wp2_with fail
    go_meet
    case rel=>exact ⟨by rw [HF.out],rfl⟩
   subst hlo
   cases tmore:(more.toList == []) with
   | false=>
    have e1:(more.toList != [])=true:=by unfold bne;rw [tmore];rfl
    have HF:Hid (D1=true):=by show _=_;rw [HD1.out,tmore];simp
    go_wp2_with fail
    go_meet
    case rel=>exact ⟨by rw [HF.out],rfl⟩
   | true=>
   have gmore:(more.toList != [])=false:=by unfold bne;rw [tmore];rfl
   by_cases hsub:sub=0
   case neg=>
    have e1:(sub != 0)=true:=by simpa using hsub
    have HF:Hid (D1=true):=by show _=_;rw [HD1.out];simp [hsub,tmore]
    go_wp2_with fail
    go_meet
    case rel=>exact ⟨by rw [HF.out],rfl⟩
   subst hsub
   by_cases hnb:nb=0
   case neg=>
    have e1:decide ((0:Int) < (nb:Int))=true:=by simp;omega
    have e2:0 < nb:=by omega
    have HF:Hid (D1=true):=by show _=_;rw [HD1.out];simp [hnb,tmore]
    go_wp2_with fail
    go_meet
    case rel=>exact ⟨by rw [HF.out],rfl⟩
   subst hnb
   by_cases hnk:nk=0
   case neg=>
    have e1:decide ((0:Int) < (nk:Int))=true:=by simp;omega
    have e2:0 < nk:=by omega
    have HF:Hid (D1=true):=by show _=_;rw [HD1.out];simp [hnk,tmore]
    go_wp2_with fail
    go_meet
    case rel=>exact ⟨by rw [HF.out],rfl⟩
   subst hnk
   have HF:Hid (D1=false):=by show _=_;rw [HD1.out,tmore];rfl
   go_wp2_with fail
   go_meet
   case rel=>exact ⟨by rw [HF.out],rfl⟩
  ·as_aux_lemma=>
   by_cases hbits:bits=0
   case neg=>
    have e1:((bits:Int) != 0)=true:=by simpa using hbits
    have HF:Hid (D1=true):=by show _=_;rw [HD1.out];simp [hbits]
    go_wp2_with fail
    go_meet
    case rel=>exact ⟨by rw [HF.out],rfl⟩
   subst hbits
   by_cases hhi:hi=0
   case neg=>
    have e1:((hi:Int) != 0)=true:=by simpa using hhi
    have HF:Hid (D1=true):=by show _=_;rw [HD1.out];simp [hhi]
    go_wp2_with fail
    go_meet
    case rel=>exact ⟨by rw [HF.out],rfl⟩
   subst hhi
   by_cases hlo:lo=0
   case neg=>
    have e1:((lo:Int) != 0)=true:=by simpa using hlo
    have HF:Hid (D1=true):=by show _=_;rw [HD1.out];simp [hlo]
    go_wp2_with fail
    go_meet
    case rel=>exact ⟨by rw [HF.out],rfl⟩
   subst hlo
   by_cases hsub:sub=0
   case neg=>
    have e1:(sub != 0)=true:=by simpa using hsub
    have HF:Hid (D1=true):=by show _=_;rw [HD1.out];simp [hsub]
    go_wp2_with fail
    go_meet
    case rel=>exact ⟨by rw [HF.out],rfl⟩
   subst hsub
   by_cases hnb:nb=0
   case neg=>
    have e1:decide ((0:Int) < (nb:Int))=true:=by simp;omega
    have e2:0 < nb:=by omega
    have HF:Hid (D1=true):=by show _=_;rw [HD1.out];simp [hnb]
    go_wp2_with fail
    go_meet
    case rel=>exact ⟨by rw [HF.out],rfl⟩
   subst hnb
   by_cases hnk:nk=0
   case neg=>
    have e1:decide ((0:Int) < (nk:Int))=true:=by simp;omega
    have e2:0 < nk:=by omega
    have HF:Hid (D1=true):=by show _=_;rw [HD1.out];simp [hnk]
    go_wp2_with fail
    go_meet
    case rel=>exact ⟨by rw [HF.out],rfl⟩
   subst hnk
   have HF:Hid (D1=false):=by show _=_;rw [HD1.out];rfl
   go_wp2_with fail
   go_meet
   case rel=>exact ⟨by rw [HF.out],rfl⟩
  ·as_aux_lemma=>
   by_cases hbits:bits=0
   case neg=>
    have e1:((bits:Int) != 0)=true:=by simpa using hbits
    have HF:Hid (D1=true):=by show _=_;rw [HD1.out];simp [hbits]
    go_wp2_with fail
    go_meet
    case rel=>exact ⟨by rw [HF.out],rfl⟩
   subst hbits
   by_cases hhi:hi=0
   case neg=>
    have e1:((hi:Int) != 0)=true:=by simpa using hhi
    have HF:Hid (D1=true):=by show _=_;rw [HD1.out];simp [hhi]
    go_wp2_with fail
    go_meet
    case rel=>exact ⟨by rw [HF.out],rfl⟩
   subst hhi
   by_cases hlo:lo=0
   case neg=>
    have e1:((lo:Int) != 0)=true:=by simpa using hlo
    have HF:Hid (D1=true):=by show _=_;rw [HD1.out];simp [hlo]
    go_wp2_with fail
    go_meet
    case rel=>exact ⟨by rw [HF.out],rfl⟩
   subst hlo
   cases ttext:(text.toList == []) with
   | false=>
    have e1:(text.toList != [])=true:=by unfold bne;rw [ttext];rfl
    have HF:Hid (D1=true):=by show _=_;rw [HD1.out,ttext];simp
    go_wp2_with fail
    go_meet
    case rel=>exact ⟨by rw [HF.out],rfl⟩
   | true=>
   have gtext:(text.toList != [])=false:=by unfold bne;rw [ttext];rfl
   cases tmore:(more.toList == []) with
   | false=>
    have e1:(more.toList != [])=true:=by unfold bne;rw [tmore];rfl
    have HF:Hid (D1=true):=by show _=_;rw [HD1.out,tmore];simp
    go_wp2_with fail
    go_meet
    case rel=>exact ⟨by rw [HF.out],rfl⟩
   | true=>
   have gmore:(more.toList != [])=false:=by unfold bne;rw [tmore];rfl
   by_cases hnk:nk=0
   case neg=>
    have e1:decide ((0:Int) < (nk:Int))=true:=by simp;omega
    have e2:0 < nk:=by omega
    have HF:Hid (D1=true):=by show _=_;rw [HD1.out];simp [hnk,ttext,tmore]
    go_wp2_with fail
    go_meet
    case rel=>exact ⟨by rw [HF.out],rfl⟩
   subst hnk
   have HF:Hid (D1=false):=by show _=_;rw [HD1.out,ttext,tmore];rfl
   go_wp2_with fail
   go_meet
   case rel=>exact ⟨by rw [HF.out],rfl⟩
  ·as_aux_lemma=>
   by_cases hbits:bits=0
   case neg=>
    have e1:((bits:Int) != 0)=true:=by simpa using hbits
    have HF:Hid (D1=true):=by show _=_;rw [HD1.out];simp [hbits]
    go_wp2_with fail
    go_meet
    case rel=>exact ⟨by rw [HF.out],rfl⟩
   subst hbits
   by_cases hhi:hi=0
   case neg=>
    have e1:((hi:Int) != 0)=true:=by simpa using hhi
    have HF:Hid (D1=true):=by show _=_;rw [HD1.out];simp [hhi]
    go_wp2_with fail
    go_meet
    case rel=>exact ⟨by rw [HF.out],rfl⟩
   subst hhi
   by_cases hlo:lo=0
   case neg=>
    have e1:((lo:Int) != 0)=true:=by simpa using hlo
    have HF:Hid (D1=true):=by show _=_;rw [HD1.out];simp [hlo]
    go_wp2_with fail
    go_meet
    case rel=>exact ⟨by rw [HF.out],rfl⟩
   subst hlo
   cases ttext:(text.toList == []) with
   | false=>
    have e1:(text.toList != [])=true:=by unfold bne;rw [ttext];rfl
    have HF:Hid (D1=true):=by show _=_;rw [HD1.out,ttext];simp
    go_wp2_with fail
    go_meet
    case rel=>exact ⟨by rw [HF.out],rfl⟩
   | true=>
   have gtext:(text.toList != [])=false:=by unfold bne;rw [ttext];rfl
   cases tmore:(more.toList == []) with
   | false=>
    have e1:(more.toList != [])=true:=by unfold bne;rw [tmore];rfl
    have HF:Hid (D1=true):=by show _=_;rw [HD1.out,tmore];simp
    go_wp2_with fail
    go_meet
    case rel=>exact ⟨by rw [HF.out],rfl⟩
   | true=>
   have gmore:(more.toList != [])=false:=by unfold bne;rw [tmore];rfl
   by_cases hsub:sub=0
   case neg=>
    have e1:(sub != 0)=true:=by simpa using hsub
    have HF:Hid (D1=true):=by show _=_;rw [HD1.out];simp [hsub,ttext,tmore]
    go_wp2_with fail
    go_meet
    case rel=>exact ⟨by rw [HF.out],rfl⟩
   subst hsub
   by_cases hnk:nk=0
   case neg=>
    have e1:decide ((0:Int) < (nk:Int))=true:=by simp;omega
    have e2:0 < nk:=by omega
    have HF:Hid (D1=true):=by show _=_;rw [HD1.out];simp [hnk,ttext,tmore]
    go_wp2_with fail
    go_meet
    case rel=>exact ⟨by rw [HF.out],rfl⟩
   subst hnk
   have HF:Hid (D1=false):=by show _=_;rw [HD1.out,ttext,tmore];rfl
   go_wp2_with fail
   go_meet
   case rel=>exact ⟨by rw [HF.out],rfl⟩
  ·as_aux_lemma=>
   by_cases hbits:bits=0
   case neg=>
    have e1:((bits:Int) != 0)=true:=by simpa using hbits
    have HF:Hid (D1=true):=by show _=_;rw [HD1.out];simp [hbits]
    go_wp2_with fail
    go_meet
    case rel=>exact ⟨by rw [HF.out],rfl⟩
   subst hbits
   by_cases hhi:hi=0
   case neg=>
    have e1:((hi:Int) != 0)=true:=by simpa using hhi
    have HF:Hid (D1=true):=by show _=_;rw [HD1.out];simp [hhi]
    go_wp2_with fail
    go_meet
    case rel=>exact ⟨by rw [HF.out],rfl⟩
   subst hhi
   by_cases hlo:lo=0
   case neg=>
    have e1:((lo:Int) != 0)=true:=by simpa using hlo
    have HF:Hid (D1=true):=by show _=_;rw [HD1.out];simp [hlo]
    go_wp2_with fail
    go_meet
    case rel=>exact ⟨by rw [HF.out],rfl⟩
   subst hlo
   cases tmore:(more.toList == []) with
   | false=>
    have e1:(more.toList != [])=true:=by unfold bne;rw [tmore];rfl
    have HF:Hid (D1=true):=by show _=_;rw [HD1.out,tmore];simp
    go_wp2_with fail
    go_meet
    case rel=>exact ⟨by rw [HF.out],rfl⟩
   | true=>
   have gmore:(more.toList != [])=false:=by unfold bne;rw [tmore];rfl
   by_cases hsub:sub=0
   case neg=>
    have e1:(sub != 0)=true:=by simpa using hsub
    have HF:Hid (D1=true):=by show _=_;rw [HD1.out];simp [hsub,tmore]
    go_wp2_with fail
    go_meet
    case rel=>exact ⟨by rw [HF.out],rfl⟩
   subst hsub
   by_cases hnk:nk=0
   case neg=>
    have e1:decide ((0:Int) < (nk:Int))=true:=by simp;omega
    have e2:0 < nk:=by omega
    have HF:Hid (D1=true):=by show _=_;rw [HD1.out];simp [hnk,tmore]
    go_wp2_with fail
    go_meet
    case rel=>exact ⟨by rw [HF.out],rfl⟩
   subst hnk
   have HF:Hid (D1=false):=by show _=_;rw [HD1.out,tmore];rfl
   go_wp2_with fail
   go_meet
   case rel=>exact ⟨by rw [HF.out],rfl⟩
  ·as_aux_lemma=>
   by_cases hbits:bits=0
   case neg=>
    have e1:((bits:Int) != 0)=true:=by simpa using hbits
    have HF:Hid (D1=true):=by show _=_;rw [HD1.out];simp [hbits]
    go_wp2_with fail
    go_meet
    case rel=>exact ⟨by rw [HF.out],rfl⟩
   subst hbits
   by_cases hhi:hi=0
   case neg=>
    have e1:((hi:Int) != 0)=true:=by simpa using hhi
    have HF:Hid (D1=true):=by show _=_;rw [HD1.out];simp [hhi]
    go_wp2_with fail
    go_meet
    case rel=>exact ⟨by rw [HF.out],rfl⟩
   subst hhi
   by_cases hlo:lo=0
   case neg=>
    have e1:((lo:Int) != 0)=true:=by simpa using hlo
    have HF:Hid (D1=true):=by show _=_;rw [HD1.out];simp [hlo]
    go_wp2_with fail
    go_meet
    case rel=>exact ⟨by rw [HF.out],rfl⟩
   subst hlo
   cases ttext:(text.toList == []) with
   | false=>
    have e1:(text.toList != [])=true:=by unfold bne;rw [ttext];rfl
    have HF:Hid (D1=true):=by show _=_;rw [HD1.out,ttext];simp
    go_wp2_with fail
    go_meet
    case rel=>exact ⟨by rw [HF.out],rfl⟩
   | true=>
   have gtext:(text.toList != [])=false:=by unfold bne;rw [ttext];rfl
   cases tmore:(more.toList == []) with
   | false=>
    have e1:(more.toList != [])=true:=by unfold bne;rw [tmore];rfl
    have HF:Hid (D1=true):=by show _=_;rw [HD1.out,tmore];simp
    go_wp2_with fail
    go_meet
    case rel=>exact ⟨by rw [HF.out],rfl⟩
   | true=>
   have gmore:(more.toList != [])=false:=by unfold bne;rw [tmore];rfl
   by_cases hsub:sub=0
   case neg=>
    have e1:(sub != 0)=true:=by simpa using hsub
    have HF:Hid (D1=true):=by show _=_;rw [HD1.out];simp [hsub,ttext,tmore]
    go_wp2_with fail
    go_meet
    case rel=>exact ⟨by rw [HF.out],rfl⟩
   subst hsub
   by_cases hnb:nb=0
   case neg=>
    have e1:decide ((0:Int) < (nb:Int))=true:=by simp;omega
    have e2:0 < nb:=by omega
    have HF:Hid (D1=true):=by show _=_;rw [HD1.out];simp [hnb,ttext,tmore]
    go_wp2_with fail
    go_meet
    case rel=>exact ⟨by rw [HF.out],rfl⟩
   subst hnb
   have HF:Hid (D1=false):=by show _=_;rw [HD1.out,ttext,tmore];rfl
   go_wp2_with fail
   go_meet
   case rel=>exact ⟨by rw [HF.out],rfl⟩
  ·as_aux_lemma=>
   by_cases hbits:bits=0
   case neg=>
    have e1:((bits:Int) != 0)=true:=by simpa using hbits
    have HF:Hid (D1=true):=by show _=_;rw [HD1.out];simp [hbits]
    go_wp2_with fail
    go_meet
    case rel=>exact ⟨by rw [HF.out],rfl⟩
   subst hbits
   by_cases hhi:hi=0
   case neg=>
    have e1:((hi:Int) != 0)=true:=by simpa using hhi
    have HF:Hid (D1=true):=by show _=_;rw [HD1.out];simp [hhi]
    go_wp2_with fail
    go_meet
    case rel=>exact ⟨by rw [HF.out],rfl⟩
   subst hhi
   by_cases hlo:lo=0
   case neg=>
    have e1:((lo:Int) != 0)=true:=by simpa using hlo
    have HF:Hid (D1=true):=by show _=_;rw [HD1.out];simp [hlo]
    go_wp2_with fail
    go_meet
    case rel=>exact ⟨by rw [HF.out],rfl⟩
   subst hlo
   cases tmore:(more.toList == []) with
   | false=>
    have e1:(more.toList != [])=true:=by unfold bne;rw [tmore];rfl
    have HF:Hid (D1=true):=by show _=_;rw [HD1.out,tmore];simp
    go_wp2_with fail
    go_meet
    case rel=>exact ⟨by rw [HF.out],rfl⟩
   | true=>
   have gmore:(more.toList != [])=false:=by unfold bne;rw [tmore];rfl
   by_cases hsub:sub=0
   case neg=>
    have e1:(sub != 0)=true:=by simpa using hsub
    have HF:Hid (D1=true):=by show _=_;rw [HD1.out];simp [hsub,tmore]
    go_wp2_with fail
    go_meet
    case rel=>exact ⟨by rw [HF.out],rfl⟩
   subst hsub
   by_cases hnb:nb=0
   case neg=>
    have e1:decide ((0:Int) < (nb:Int))=true:=by simp;omega
    have e2:0 < nb:=by omega
    have HF:Hid (D1=true):=by show _=_;rw [HD1.out];simp [hnb,tmore]
    go_wp2_with fail
    go_meet
    case rel=>exact ⟨by rw [HF.out],rfl⟩
   subst hnb
   have HF:Hid (D1=false):=by show _=_;rw [HD1.out,tmore];rfl
   go_wp2_with fail
   go_meet
   case rel=>exact ⟨by rw [HF.out],rfl⟩
  ·as_aux_lemma=>
   by_cases hbits:bits=0
   case neg=>
    have e1:((bits:Int) != 0)=true:=by simpa using hbits
    have HF:Hid (D1=true):=by show _=_;rw [HD1.out];simp [hbits]
    go_wp2_with fail
    go_meet
    case rel=>exact ⟨by rw [HF.out],rfl⟩
   subst hbits
   by_cases hhi:hi=0
   case neg=>
    have e1:((hi:Int) != 0)=true:=by simpa using hhi
    have HF:Hid (D1=true):=by show _=_;rw [HD1.out];simp [hhi]
    go_wp2_with fail
    go_meet
    case rel=>exact ⟨by rw [HF.out],rfl⟩
   subst hhi
   by_cases hlo:lo=0
   case neg=>
    have e1:((lo:Int) != 0)=true:=by simpa using hlo
    have HF:Hid (D1=true):=by show _=_;rw [HD1.out];simp [hlo]
    go_wp2_with fail
    go_meet
    case rel=>exact ⟨by rw [HF.out],rfl⟩
   subst hlo
   cases ttext:(text.toList == []) with
   | false=>
    have e1:(text.toList != [])=true:=by unfold bne;rw [ttext];rfl
    have HF:Hid (D1=true):=by show _=_;rw [HD1.out,ttext];simp
    go_wp2_with fail
    go_meet
    case rel=>exact ⟨by rw [HF.out],rfl⟩
   | true=>
   have gtext:(text.toList != [])=false:=by unfold bne;rw [ttext];rfl
   cases tmore:(more.toList == []) with
   | false=>
    have e1:(more.toList != [])=true:=by unfold bne;rw [tmore];rfl
    have HF:Hid (D1=true):=by show _=_;rw [HD1.out,tmore];simp
    go_wp2_with fail
    go_meet
    case rel=>exact ⟨by rw [HF.out],rfl⟩
   | true=>
   have gmore:(more.toList != [])=false:=by unfold bne;rw [tmore];rfl
   by_cases hsub:sub=0
   case neg=>
    have e1:(sub != 0)=true:=by simpa using hsub
    have HF:Hid (D1=true):=by show _=_;rw [HD1.out];simp [hsub,ttext,tmore]
    go_wp2_with fail
    go_meet
    case rel=>exact ⟨by rw [HF.out],rfl⟩
   subst hsub
   by_cases hnb:nb=0
   case neg=>
    have e1:decide ((0:Int) < (nb:Int))=true:=by simp;omega
    have e2:0 < nb:=by omega
    have HF:Hid (D1=true):=by show _=_;rw [HD1.out];simp [hnb,ttext,tmore]
    go_wp2_with fail
    go_meet
    case rel=>exact ⟨by rw [HF.out],rfl⟩
   subst hnb
   by_cases hnk:nk=0
   case neg=>
    have e1:decide ((0:Int) < (nk:Int))=true:=by simp;omega
    have e2:0 < nk:=by omega
    have HF:Hid (D1=true):=by show _=_;rw [HD1.out];simp [hnk,ttext,tmore]
    go_wp2_with fail
    go_meet
    case rel=>exact ⟨by rw [HF.out],rfl⟩
   subst hnk
   have HF:Hid (D1=false):=by show _=_;rw [HD1.out,ttext,tmore];rfl
   go_wp2_with fail
   go_meet
   case rel=>exact ⟨by rw [HF.out],rfl⟩
 case rest=>
  obtain ⟨rfl,rfl⟩:=hcut
  clear HVEC HD1
  cases D1 with
  | true=>
   have HE:Hid (E=1):=HEE.out
   clear HEE
   go_wp2_with fail
   go_ret
   exact ⟨by rw [HE.out];rfl,HB1.out⟩
  | false=>
  go_upto_region 6 with fail
  go_cut [136] from 93 to 136 (fun p136 W=>p136=.bool D2∧W=wc)
  case first=>
   by_cases h16:k=16
   ·subst h16
    as_aux_lemma=>
    by_cases hb:4294967296≤bits
    case pos=>
     have HF:Hid (D2=true):=by show _=_;rw [HD2.out];simp [ok2,hb]
     have e0:decide ((4294967296:Int)≤(bits:Int))=true:=by simp;omega
     go_wp2_with fail
     go_meet
     case rel=>exact ⟨by rw [HF.out],rfl⟩
    have e0:decide ((4294967296:Int)≤(bits:Int))=false:=by simp;omega
    by_cases hs0:sub < 0
    case pos=>
     have HF:Hid (D2=true):=by show _=_;rw [HD2.out];simp [ok2,hs0]
     have e1:decide (sub < 0)=true:=by simpa using hs0
     go_wp2_with fail
     go_meet
     case rel=>exact ⟨by rw [HF.out],rfl⟩
    have e1:decide (sub < 0)=false:=by simpa using hs0
    by_cases hs1:255 < sub
    case pos=>
     have HF:Hid (D2=true):=by show _=_;rw [HD2.out];simp [ok2,hs1]
     have e2:decide (255 < sub)=true:=by simpa using hs1
     go_wp2_with fail
     go_meet
     case rel=>exact ⟨by rw [HF.out],rfl⟩
    have e2:decide (255 < sub)=false:=by simpa using hs1
    have HF:Hid (D2=false):=by show _=_;rw [HD2.out];simp [ok2,hs0,hs1,hb];try omega
    go_wp2_with fail
    go_meet
    case rel=>exact ⟨by rw [HF.out],rfl⟩
   by_cases h8:k=8
   ·subst h8
    as_aux_lemma=>
    by_cases hb:2≤bits
    case pos=>
     have HF:Hid (D2=true):=by show _=_;rw [HD2.out];simp [ok2,hb]
     have e0:decide ((1:Int) < (bits:Int))=true:=by simp;omega
     go_wp2_with fail
     go_meet
     case rel=>exact ⟨by rw [HF.out],rfl⟩
    have e0:decide ((1:Int) < (bits:Int))=false:=by simp;omega
    by_cases hs0:sub < 0
    case pos=>
     have HF:Hid (D2=true):=by show _=_;rw [HD2.out];simp [ok2,hs0]
     have e1:decide (sub < 0)=true:=by simpa using hs0
     go_wp2_with fail
     go_meet
     case rel=>exact ⟨by rw [HF.out],rfl⟩
    have e1:decide (sub < 0)=false:=by simpa using hs0
    by_cases hs1:255 < sub
    case pos=>
     have HF:Hid (D2=true):=by show _=_;rw [HD2.out];simp [ok2,hs1]
     have e2:decide (255 < sub)=true:=by simpa using hs1
     go_wp2_with fail
     go_meet
     case rel=>exact ⟨by rw [HF.out],rfl⟩
    have e2:decide (255 < sub)=false:=by simpa using hs1
    have HF:Hid (D2=false):=by show _=_;rw [HD2.out];simp [ok2,hs0,hs1,hb];try omega
    go_wp2_with fail
    go_meet
    case rel=>exact ⟨by rw [HF.out],rfl⟩
   by_cases h7:k=7
   ·subst h7
    as_aux_lemma=>
    by_cases hs0:sub < 0
    case pos=>
     have HF:Hid (D2=true):=by show _=_;rw [HD2.out];simp [ok2,hs0]
     have e1:decide (sub < 0)=true:=by simpa using hs0
     go_wp2_with fail
     go_meet
     case rel=>exact ⟨by rw [HF.out],rfl⟩
    have e1:decide (sub < 0)=false:=by simpa using hs0
    by_cases hs1:255 < sub
    case pos=>
     have HF:Hid (D2=true):=by show _=_;rw [HD2.out];simp [ok2,hs1]
     have e2:decide (255 < sub)=true:=by simpa using hs1
     go_wp2_with fail
     go_meet
     case rel=>exact ⟨by rw [HF.out],rfl⟩
    have e2:decide (255 < sub)=false:=by simpa using hs1
    by_cases hb:nb=12
    ·subst hb
     have HF:Hid (D2=false):=by show _=_;rw [HD2.out];simp [ok2,hs0,hs1];try omega
     go_wp2_with fail
     go_meet
     case rel=>exact ⟨by rw [HF.out],rfl⟩
    ·have HF:Hid (D2=true):=by show _=_;rw [HD2.out];simp [ok2,hb]
     have e3:((nb:Int) != 12)=true:=by simp;omega
     go_wp2_with fail
     go_meet
     case rel=>exact ⟨by rw [HF.out],rfl⟩
   by_cases h12:k=12
   ·subst h12
    as_aux_lemma=>
    by_cases hs0:sub < 0
    case pos=>
     have HF:Hid (D2=true):=by show _=_;rw [HD2.out];simp [ok2,hs0]
     have e1:decide (sub < 0)=true:=by simpa using hs0
     go_wp2_with fail
     go_meet
     case rel=>exact ⟨by rw [HF.out],rfl⟩
    have e1:decide (sub < 0)=false:=by simpa using hs0
    by_cases hs1:255 < sub
    case pos=>
     have HF:Hid (D2=true):=by show _=_;rw [HD2.out];simp [ok2,hs1]
     have e2:decide (255 < sub)=true:=by simpa using hs1
     go_wp2_with fail
     go_meet
     case rel=>exact ⟨by rw [HF.out],rfl⟩
    have e2:decide (255 < sub)=false:=by simpa using hs1
    by_cases hb:nb=12
    ·subst hb
     have HF:Hid (D2=false):=by show _=_;rw [HD2.out];simp [ok2,hs0,hs1];try omega
     go_wp2_with fail
     go_meet
     case rel=>exact ⟨by rw [HF.out],rfl⟩
    ·have HF:Hid (D2=true):=by show _=_;rw [HD2.out];simp [ok2,hb]
     have e3:((nb:Int) != 12)=true:=by simp;omega
     go_wp2_with fail
     go_meet
     case rel=>exact ⟨by rw [HF.out],rfl⟩
   have n16:(k == 16)=false:=by simpa using h16
   have n8:(k == 8)=false:=by simpa using h8
   have n7:(k == 7)=false:=by simpa using h7
   have n12:(k == 12)=false:=by simpa using h12
   by_cases hs0:sub < 0
   case pos=>
    have HF:Hid (D2=true):=by show _=_;rw [HD2.out];simp [ok2,hs0]
    have e1:decide (sub < 0)=true:=by simpa using hs0
    go_wp2_with fail
    go_meet
    case rel=>exact ⟨by rw [HF.out],rfl⟩
   have e1:decide (sub < 0)=false:=by simpa using hs0
   by_cases hs1:255 < sub
   case pos=>
    have HF:Hid (D2=true):=by show _=_;rw [HD2.out];simp [ok2,hs1]
    have e2:decide (255 < sub)=true:=by simpa using hs1
    go_wp2_with fail
    go_meet
    case rel=>exact ⟨by rw [HF.out],rfl⟩
   have e2:decide (255 < sub)=false:=by simpa using hs1
   have HF:Hid (D2=false):=by show _=_;rw [HD2.out];simp [ok2,hs0,hs1,h16,h8,h7,h12];try omega
   go_wp2_with fail
   go_meet
   case rel=>exact ⟨by rw [HF.out],rfl⟩
  case rest=>
   obtain ⟨rfl,hw⟩:=hcut
   subst hw
   clear HD2
   cases D2 with
   | true=>
    have HE:Hid (E=1):=HEE.out
    clear HEE
    go_wp2_with fail
    go_ret
    exact ⟨by rw [HE.out];rfl,HB1.out⟩
   | false=>
   have e11:=HRX.out
   cases b1 with
   | false=>
    have HE:Hid (E=4):=by show _=_;rw [HEE.out];rfl
    clear HEE
    go_wp2_with fail
    refine (W1.out _).mono ?_
    rintro e w3 ⟨rfl,hb3⟩
    have HB3:Hid (Below w.heap.size w w3):=HB1.out.trans (hb3.mono HB1.out.size)
    have HX3:=Lib.hid (HX1.out.keep hb3)
    clear f0 f1 f2 f3 f4 f5 f6 f7 f8 l0
    obtain ⟨f0,f1,f2,f3,f4,f5,f6,f7,f8,l0⟩:=HX3.out.nine
    clear hb3
    go_wp2_with fail
    go_ret
    exact ⟨by rw [HE.out];rfl,HB3.out⟩
   | true=>
   cases b2 with
   | false=>
    have:∀ a b c d:Bool,True:=fun _ _ _ _=>trivial
    have HE:Hid (E=4):=by show _=_;rw [HEE.out];simp
    clear HEE
    go_wp2_with fail
    refine (W1.out _).mono ?_
    rintro e w3 ⟨rfl,hb3⟩
    have HB3:Hid (Below w.heap.size w w3):=HB1.out.trans (hb3.mono HB1.out.size)
    have HX3:=Lib.hid (HX1.out.keep hb3)
    clear f0 f1 f2 f3 f4 f5 f6 f7 f8 l0
    obtain ⟨f0,f1,f2,f3,f4,f5,f6,f7,f8,l0⟩:=HX3.out.nine
    clear hb3
    go_wp2_with fail
    refine (W2.out _).mono ?_
    rintro e w4 ⟨rfl,hb4⟩
    have HB4:Hid (Below w.heap.size w w4):=HB3.out.trans (hb4.mono HB3.out.size)
    have HX4:=Lib.hid (HX3.out.keep hb4)
    clear f0 f1 f2 f3 f4 f5 f6 f7 f8 l0
    obtain ⟨f0,f1,f2,f3,f4,f5,f6,f7,f8,l0⟩:=HX4.out.nine
    clear hb4
    go_wp2_with fail
    go_ret
    exact ⟨by rw [HE.out];rfl,HB4.out⟩
   | true=>
   cases rx with
   | false=>
    have HE:Hid (E=0):=by show _=_;rw [HEE.out];rfl
    clear HEE
    go_wp2_with fail
    refine (W1.out _).mono ?_
    rintro e w3 ⟨rfl,hb3⟩
    have HB3:Hid (Below w.heap.size w w3):=HB1.out.trans (hb3.mono HB1.out.size)
    have HX3:=Lib.hid (HX1.out.keep hb3)
    clear f0 f1 f2 f3 f4 f5 f6 f7 f8 l0
    obtain ⟨f0,f1,f2,f3,f4,f5,f6,f7,f8,l0⟩:=HX3.out.nine
    clear hb3
    go_wp2_with fail
    refine (W2.out _).mono ?_
    rintro e w4 ⟨rfl,hb4⟩
    have HB4:Hid (Below w.heap.size w w4):=HB3.out.trans (hb4.mono HB3.out.size)
    have HX4:=Lib.hid (HX3.out.keep hb4)
    clear f0 f1 f2 f3 f4 f5 f6 f7 f8 l0
    obtain ⟨f0,f1,f2,f3,f4,f5,f6,f7,f8,l0⟩:=HX4.out.nine
    clear hb4
    go_wp2_with fail
    go_ret
    exact ⟨by rw [HE.out];rfl,HB4.out⟩
   | true=>
   cases z1 with
   | true=>
    have HE:Hid (E=4):=by show _=_;rw [HEE.out];rfl
    clear HEE
    go_wp2_with fail
    refine (W1.out _).mono ?_
    rintro e w3 ⟨rfl,hb3⟩
    have HB3:Hid (Below w.heap.size w w3):=HB1.out.trans (hb3.mono HB1.out.size)
    have HX3:=Lib.hid (HX1.out.keep hb3)
    clear f0 f1 f2 f3 f4 f5 f6 f7 f8 l0
    obtain ⟨f0,f1,f2,f3,f4,f5,f6,f7,f8,l0⟩:=HX3.out.nine
    clear hb3
    go_wp2_with fail
    refine (W2.out _).mono ?_
    rintro e w4 ⟨rfl,hb4⟩
    have HB4:Hid (Below w.heap.size w w4):=HB3.out.trans (hb4.mono HB3.out.size)
    have HX4:=Lib.hid (HX3.out.keep hb4)
    clear f0 f1 f2 f3 f4 f5 f6 f7 f8 l0
    obtain ⟨f0,f1,f2,f3,f4,f5,f6,f7,f8,l0⟩:=HX4.out.nine
    clear hb4
    go_wp2_with fail
    refine (Z1.out _).mono ?_
    rintro e w5 ⟨rfl,rfl⟩
    go_wp2_with fail
    go_ret
    exact ⟨by rw [HE.out];rfl,HB4.out⟩
   | false=>
   cases z2 with
   | true=>
    have HE:Hid (E=4):=by show _=_;rw [HEE.out];rfl
    clear HEE
    go_wp2_with fail
    refine (W1.out _).mono ?_
    rintro e w3 ⟨rfl,hb3⟩
    have HB3:Hid (Below w.heap.size w w3):=HB1.out.trans (hb3.mono HB1.out.size)
    have HX3:=Lib.hid (HX1.out.keep hb3)
    clear f0 f1 f2 f3 f4 f5 f6 f7 f8 l0
    obtain ⟨f0,f1,f2,f3,f4,f5,f6,f7,f8,l0⟩:=HX3.out.nine
    clear hb3
    go_wp2_with fail
    refine (W2.out _).mono ?_
    rintro e w4 ⟨rfl,hb4⟩
    have HB4:Hid (Below w.heap.size w w4):=HB3.out.trans (hb4.mono HB3.out.size)
    have HX4:=Lib.hid (HX3.out.keep hb4)
    clear f0 f1 f2 f3 f4 f5 f6 f7 f8 l0
    obtain ⟨f0,f1,f2,f3,f4,f5,f6,f7,f8,l0⟩:=HX4.out.nine
    clear hb4
    go_wp2_with fail
    refine (Z1.out _).mono ?_
    rintro e w5 ⟨rfl,rfl⟩
    go_wp2_with fail
    refine (Z2.out _).mono ?_
    rintro e w6 ⟨rfl,rfl⟩
    go_wp2_with fail
    go_ret
    exact ⟨by rw [HE.out];rfl,HB4.out⟩
   | false=>
   have HE:Hid (E=0):=by show _=_;rw [HEE.out];rfl
   clear HEE
   go_wp2_with fail
   refine (W1.out _).mono ?_
   rintro e w3 ⟨rfl,hb3⟩
   have HB3:Hid (Below w.heap.size w w3):=HB1.out.trans (hb3.mono HB1.out.size)
   have HX3:=Lib.hid (HX1.out.keep hb3)
   clear f0 f1 f2 f3 f4 f5 f6 f7 f8 l0
   obtain ⟨f0,f1,f2,f3,f4,f5,f6,f7,f8,l0⟩:=HX3.out.nine
   clear hb3
   go_wp2_with fail
   refine (W2.out _).mono ?_
   rintro e w4 ⟨rfl,hb4⟩
   have HB4:Hid (Below w.heap.size w w4):=HB3.out.trans (hb4.mono HB3.out.size)
   have HX4:=Lib.hid (HX3.out.keep hb4)
   clear f0 f1 f2 f3 f4 f5 f6 f7 f8 l0
   obtain ⟨f0,f1,f2,f3,f4,f5,f6,f7,f8,l0⟩:=HX4.out.nine
   clear hb4
   go_wp2_with fail
   refine (Z1.out _).mono ?_
   rintro e w5 ⟨rfl,rfl⟩
   go_wp2_with fail
   refine (Z2.out _).mono ?_
   rintro e w6 ⟨rfl,rfl⟩
   go_wp2_with fail
   go_ret
   exact ⟨by rw [HE.out];rfl,HB4.out⟩
end Go.Proofs.YtmooaepbdmengaaGreatDoor
