/- Parts of the proof of SniffWritten: MpP, MpA, MpB, MpC, MpD. -/
import Derived.Test.YtmooaepbdmengaaGreatDoorZ11
import Derived.Test.YtmooaepbdmengaaGreatDoorZ03
import Derived.Test.YtmooaepbdmengaaGreatDoorZ09
import Derived.Test.YtmooaepbdmengaaGreatDoorZ12
import Derived.Test.YtmooaepbdmengaaGreatDoorZ13
import Derived.Test.YtmooaepbdmengaaGreatDoorZ10
import Derived.Lib.Zigzag
import Derived.Deep.RegionHeld3
namespace Go.Proofs.YtmooaepbdmengaaGreatDoor
set_option linter.unusedVariables false
set_option linter.unusedSimpArgs false
def goodM (k:Int) (n nb ts nk:Nat):Prop:=
 (k=1∧nb=0∧ts=0∧nk=0)∨(k=2∧n < 9223372036854775808∧nb=0∧ts=0∧nk=0)∨(k=3∧n=0∧ts=0∧nk=0)∨(k=4∧n=0∧nb=0∧nk=0)
 ∨ (k=5∧n=0∧nb=0∧ts=0)∨(k=6∧n=0∧nb=0∧ts=0∧nk % 2=0)∨(k=8∧(n=20∨n=21∨n=22)∧nb=0∧ts=0∧nk=0)∨(k=9∧nb=0∧ts=0∧nk=0)∨(k=10∧n≤127∧ts=0∧nk=0)
mutual
def OkM:I→Prop
 | .mk k n bs text kids=>goodM k n bs.length text.size kids.len∧(wholeTo (sl text) == text.size)=true∧OkMs kids
def OkMs:IL→Prop
 | .nil=>True
 | .cons x r=>OkM x∧OkMs r
end
mutual
def szM:I→Nat
 | .mk k n bs text kids=>9+bs.length+text.size+szMs kids
def szMs:IL→Nat
 | .nil=>0
 | .cons x r=>szM x+szMs r
end
def extI (n:Nat) (l:List UInt8):I:=.mk 10 n l emB .nil
theorem sz_nu (k:Int) (n:Nat):szM (nuI k n)=9:=by simp [nuI,szM,szMs,emB,ByteArray.size]
theorem sz_txt (s:ByteArray):szM (txtI s)=9+s.size:=by simp [txtI,szM,szMs]
theorem sz_data (l:List UInt8):szM (dataI l)=9+l.length:=by simp [dataI,szM,szMs,emB,ByteArray.size]
theorem sz_list (f:IL):szM (listI f)=9+szMs f:=by simp [listI,szM,emB,ByteArray.size]
theorem sz_map (f:IL):szM (.mk 6 0 [] emB f)=9+szMs f:=by simp [szM,emB,ByteArray.size]
theorem sz_ext (n:Nat) (l:List UInt8):szM (extI n l)=9+l.length:=by simp [extI,szM,szMs,emB,ByteArray.size]
theorem whole_em:(wholeTo (sl emB) == emB.size)=true:=by decide
theorem ok_nu (k:Int) (n:Nat) (h:k=1∨(k=2∧n < 9223372036854775808)∨k=9∨(k=8∧(n=20∨n=21∨n=22))):OkM (nuI k n):=by
 refine ⟨?_,whole_em,trivial⟩
 show goodM k n 0 0 0
 unfold goodM
 omega
theorem ok_txt (s:ByteArray) (h:(wholeTo (sl s) == s.size)=true):OkM (txtI s):=⟨by show goodM 4 0 0 s.size 0;unfold goodM;omega,h,trivial⟩
theorem ok_data (l:List UInt8):OkM (dataI l):=⟨by show goodM 3 0 l.length 0 0;unfold goodM;omega,whole_em,trivial⟩
theorem ok_list (f:IL) (h:OkMs f):OkM (listI f):=⟨by show goodM 5 0 0 0 f.len;unfold goodM;omega,whole_em,h⟩
theorem ok_map (f:IL) (hl:f.len % 2=0) (h:OkMs f):OkM (.mk 6 0 [] emB f):=⟨by show goodM 6 0 0 0 f.len;unfold goodM;omega,whole_em,h⟩
theorem ok_ext (n:Nat) (l:List UInt8) (h:n≤127):OkM (extI n l):=⟨by show goodM 10 n l.length 0 0;unfold goodM;omega,whole_em,trivial⟩
theorem okMs_app:∀ g h:IL,OkMs g→OkMs h→OkMs (g.append h)
 | .nil,h,_,h2=>h2
 | .cons x r,h,h1,h2=>⟨h1.1,okMs_app r h h1.2 h2⟩
theorem okMs_two {x y:I} (h1:OkM x) (h2:OkM y):OkMs (.cons x (.cons y .nil)):=⟨h1,h2,trivial⟩
theorem okMs_one {x:I} (h1:OkM x):OkMs (.cons x .nil):=⟨h1,trivial⟩
theorem szMs_app:∀ g h:IL,szMs (g.append h)=szMs g+szMs h
 | .nil,h=>by simp [IL.append,szMs]
 | .cons x r,h=>by simp only [IL.append,szMs,szMs_app r h];omega
theorem szM_pos:∀ x:I,9≤szM x
 | .mk ..=>by simp only [szM];omega
theorem len_szMs:∀ f:IL,f.len * 9≤szMs f
 | .nil=>by simp [IL.len]
 | .cons x r=>by have:=len_szMs r;have:=szM_pos x;simp only [IL.len,szMs];omega
theorem szMs_get:∀ (f:IL) (i:Nat) (x:I),f.get? i=some x→szM x≤szMs f∧szMs (f.drop i)=szM x+szMs (f.drop (i+1))
 | .nil,i,x,h=>by simp [IL.get?] at h
 | .cons y r,0,x,h=>by
  simp only [IL.get?,Option.some.injEq] at h
  subst h
  simp [IL.drop,szMs]
 | .cons y r,i+1,x,h=>by
  have:=szMs_get r i x h
  simp only [szMs,IL.drop]
  omega
theorem OkMs.get:∀ {f:IL} {i:Nat} {x:I},OkMs f→f.get? i=some x→OkM x
 | .nil,i,x,h,hj=>by simp [IL.get?] at hj
 | .cons y r,0,x,h,hj=>by
  simp only [IL.get?,Option.some.injEq] at hj
  subst hj
  exact h.1
 | .cons y r,i+1,x,h,hj=>OkMs.get (f:=r) h.2 hj
end Go.Proofs.YtmooaepbdmengaaGreatDoor
namespace Go.Proofs.YtmooaepbdmengaaGreatDoor
open Go.RowKit
set_option linter.unusedVariables false
set_option linter.unusedSimpArgs false
set_option maxRecDepth 100000 in
set_option maxHeartbeats 4000000 in
theorem text29_calls (s:ByteArray) (w:World):Calls Tryz.prog 42 #[.string s] w fun e w'=>e=.returned (.agg (itCells 4 0 none 0 0 s none 0 0))∧Below w.heap.size w w':=by
 go_enter Tryz.func42,Tryz.ntmps42
 go_wp2_with fail
 refine bodyPost_ret (v:=.agg (itCells 4 0 none 0 0 s none 0 0)) (by simp [results,Tryz.results42,go_sem]) rfl ?_
 exact ⟨rfl,(Below.refl _ _).alloc (Nat.le_refl _) _⟩
def sortM (k:Nat):Nat:=if k=255 then 126 else k
set_option maxRecDepth 100000 in
set_option maxHeartbeats 4000000 in
theorem exted_calls (k:Nat) (hk:k≤255) (a:Option Addr) (n c:Nat) (w:World):Calls Tryz.prog 64 #[.int .i64 (k:Nat),.slice a n c] w fun e w'=>e=.returned (.agg (itCells 10 (sortM k) a n c ⟨#[]⟩ none 0 0))∧Below w.heap.size w w':=by
 by_cases h:k=255
 ·subst h
  go_enter Tryz.func64,Tryz.ntmps64
  go_wp2_with fail
  refine bodyPost_ret (v:=.agg (itCells 10 126 a n c ⟨#[]⟩ none 0 0)) (by simp [results,Tryz.results64,go_sem]) rfl ?_
  exact ⟨rfl,(Below.refl _ _).alloc (Nat.le_refl _) _⟩
 ·have hE:Hid (sortM k=k):=Lib.hid (by unfold sortM;rw [if_neg h])
  have h1:((k:Int) == 255)=false:=by simp;omega
  have h2:IntKind.u64.wrap (k:Int)=(k:Int):=by rw [IntKind.wrap_u64];omega
  clear hk
  go_enter Tryz.func64,Tryz.ntmps64
  go_wp2_with fail
  refine bodyPost_ret (v:=.agg (itCells 10 k a n c ⟨#[]⟩ none 0 0)) (by simp [results,Tryz.results64,go_sem, *]) rfl ?_
  exact ⟨by rw [hE.out],(Below.refl _ _).alloc (Nat.le_refl _) _⟩
def wideM (n:Nat):Nat:=if n < 256 then 1 else if n < 65536 then 2 else if n < 4294967296 then 4 else 8
def stepM (s:Nat):Nat:=if s=1 then 0 else if s=2 then 1 else if s=4 then 2 else 3
theorem wideM_cases (n:Nat):wideM n=1∨wideM n=2∨wideM n=4∨wideM n=8:=by unfold wideM;(repeat' split)<;>simp
set_option maxRecDepth 100000 in
set_option maxHeartbeats 4000000 in
theorem wide29_calls (n:Nat) (w:World):Calls Tryz.prog 87 #[.int .u64 (n:Nat)] w fun e w'=>e=.returned (.int .i64 (wideM n:Nat))∧w'=w:=by
 by_cases h0:n < 256
 ·have HE:Hid (wideM n=1):=Lib.hid (by unfold wideM;rw [if_pos h0])
  have d0:decide ((n:Int) < 256)=true:=by simp;omega
  clear h0
  go_enter Tryz.func87,Tryz.ntmps87
  go_wp2_with fail
  go_ret
  exact ⟨by rw [HE.out];rfl,rfl⟩
 by_cases h1:n < 65536
 ·have HE:Hid (wideM n=2):=Lib.hid (by unfold wideM;rw [if_neg h0,if_pos h1])
  have d0:decide ((n:Int) < 256)=false:=by simp;omega
  have d1:decide ((n:Int) < 65536)=true:=by simp;omega
  clear h0 h1
  go_enter Tryz.func87,Tryz.ntmps87
  go_wp2_with fail
  go_ret
  exact ⟨by rw [HE.out];rfl,rfl⟩
 by_cases h2:n < 4294967296
 ·have HE:Hid (wideM n=4):=Lib.hid (by unfold wideM;rw [if_neg h0,if_neg h1,if_pos h2])
  have d0:decide ((n:Int) < 256)=false:=by simp;omega
  have d1:decide ((n:Int) < 65536)=false:=by simp;omega
  have d2:decide ((n:Int) < 4294967296)=true:=by simp;omega
  clear h0 h1 h2
  go_enter Tryz.func87,Tryz.ntmps87
  go_wp2_with fail
  go_ret
  exact ⟨by rw [HE.out];rfl,rfl⟩
 have HE:Hid (wideM n=8):=Lib.hid (by unfold wideM;rw [if_neg h0,if_neg h1,if_neg h2])
 have d0:decide ((n:Int) < 256)=false:=by simp;omega
 have d1:decide ((n:Int) < 65536)=false:=by simp;omega
 have d2:decide ((n:Int) < 4294967296)=false:=by simp;omega
 clear h0 h1 h2
 go_enter Tryz.func87,Tryz.ntmps87
 go_wp2_with fail
 go_ret
 exact ⟨by rw [HE.out];rfl,rfl⟩
set_option maxRecDepth 100000 in
set_option maxHeartbeats 4000000 in
theorem step29_calls (n:Nat) (w:World):Calls Tryz.prog 88 #[.int .i64 (n:Nat)] w fun e w'=>e=.returned (.int .u8 (stepM n:Nat))∧w'=w:=by
 by_cases h0:n=1
 ·subst h0
  go_enter Tryz.func88,Tryz.ntmps88
  go_wp2_with fail
  go_ret
  exact ⟨rfl,rfl⟩
 by_cases h1:n=2
 ·subst h1
  go_enter Tryz.func88,Tryz.ntmps88
  go_wp2_with fail
  go_ret
  exact ⟨rfl,rfl⟩
 by_cases h2:n=4
 ·subst h2
  go_enter Tryz.func88,Tryz.ntmps88
  go_wp2_with fail
  go_ret
  exact ⟨rfl,rfl⟩
 have HE:Hid (stepM n=3):=Lib.hid (by unfold stepM;rw [if_neg h0,if_neg h1,if_neg h2])
 have d0:((n:Int) == 1)=false:=by simp;omega
 have d1:((n:Int) == 2)=false:=by simp;omega
 have d2:((n:Int) == 4)=false:=by simp;omega
 clear h0 h1 h2
 go_enter Tryz.func88,Tryz.ntmps88
 go_wp2_with fail
 go_ret
 exact ⟨by rw [HE.out];rfl,rfl⟩
def formB (first n least:Nat):List UInt8:=UInt8.ofNat (first+stepM (Nat.max (wideM n) least) - stepM least)::(leBytes (Nat.max (wideM n) least) n).reverse
set_option maxRecDepth 100000 in
set_option maxHeartbeats 4000000 in
theorem form29_calls (first n least:Nat) (hf:first≤250) (hl:least=1∨least=2) (hn:n < okSize) (w:World) :
  Calls Tryz.prog 65 #[.int .u8 (first:Nat),.int .u64 (n:Nat),.int .i64 (least:Nat)] w (HeadO w (formB first n least)):=by
 have CW:=Lib.hid (fun W=>wide29_calls n W)
 obtain ⟨Z,hZ⟩:∃ Z,Z=Nat.max (wideM n) least:=⟨_,rfl⟩
 have hw:=wideM_cases n
 have hZ8:Z=1∨Z=2∨Z=4∨Z=8:=by
  rw [hZ];simp only [Nat.max_def];split<;>omega
 have hm:max ((wideM n:Nat):Int) (least:Int)=(Z:Int):=by rw [hZ];simp only [Nat.max_def,Int.max_def];split<;>split<;>omega
 have hF:Hid (formB first n least=[UInt8.ofNat (first+stepM Z - stepM least)]++(leBytes Z n).reverse):=Lib.hid (by rw [hZ];rfl)
 generalize formB first n least=H at hF ⊢
 obtain ⟨X1,hX1⟩:∃ X,X=first+stepM Z:=⟨_,rfl⟩
 obtain ⟨X,hX⟩:∃ X,X=first+stepM Z - stepM least:=⟨_,rfl⟩
 have hs1:stepM least≤stepM Z∧stepM Z≤3:=by
  have h9:least≤Z:=by rw [hZ];exact Nat.le_max_right _ _
  rcases hl with rfl|rfl<;>rcases hZ8 with rfl|rfl|rfl|rfl<;>first|omega|decide
 have w1:IntKind.u8.wrap ((first:Int)+((stepM Z:Nat):Int))=(X1:Int):=(IntWalk.u8_in _ (by omega)).trans (by omega)
 have w2:IntKind.u8.wrap ((X1:Int) - ((stepM least:Nat):Int))=(X:Int):=(IntWalk.u8_in _ (by omega)).trans (by omega)
 have hX9:X < 256:=by omega
 have CS1:=Lib.hid (fun W=>step29_calls Z W)
 have CS2:=Lib.hid (fun W=>step29_calls least W)
 have CP:=Lib.hid (fun W=>putHigh_calls n (Z:Nat) hn W)
 have HS:Hid (putHighS n (Z:Nat)=(leBytes Z n).reverse):=Lib.hid (by unfold putHighS putLowS;rw [if_pos (by omega)];rfl)
 have hlen:(leBytes Z n).reverse.length≤8:=by simp [leBytes_length];omega
 have hV:Hid (H=[UInt8.ofNat X]++(leBytes Z n).reverse):=Lib.hid (by rw [hF.out,hX])
 generalize (leBytes Z n).reverse=T at HS hV hlen
 rw [HS.out] at CP
 generalize stepM Z=sZ at CS1 w1
 generalize stepM least=sL at CS2 w2
 clear hF HS hX hX1 hs1 hZ8 hw hl hn hf
 rcases (show (wideM n < least∧Z=least)∨(least≤wideM n∧Z=wideM n) by rw [hZ];simp only [Nat.max_def];split<;>omega) with ⟨hc,rfl⟩|⟨hc,rfl⟩
 all_goals
  clear hZ
  generalize wideM n=wN at *
  go_enter Tryz.func65,Tryz.ntmps65
  go_wp2_with fail
  refine (CW.out _).mono ?_
  rintro e w0 ⟨rfl,hw0⟩
  rw [hw0]
  clear hw0
  go_wp2_with fail
  refine (CS1.out _).mono ?_
  rintro e w0 ⟨rfl,hw0⟩
  rw [hw0]
  clear hw0
  go_wp2_with fail
  refine (CS2.out _).mono ?_
  rintro e w0 ⟨rfl,hw0⟩
  rw [hw0]
  clear hw0
  go_wp2_with fail
  refine (CP.out _).mono ?_
  rintro e wb ⟨v,rfl,ho,hb⟩
  have HO:=Lib.hid ho
  have HF1:Hid (OwnB wb w.heap.size (.slice (some ⟨w.heap.size,0,none⟩) 1 1) [UInt8.ofNat X]):=(own_fresh w _ X hX9 (Nat.le_refl _)).keep hb
  have HB:Hid (Below w.heap.size w wb):=((Below.refl _ _).alloc (Nat.le_refl _) _).trans (hb.mono (by simp))
  clear ho hb CP
  go_wp2_with (at_builtin;refine wpList_appB (v:=.slice (some ⟨w.heap.size,0,none⟩) 1 1) (bs:=[UInt8.ofNat X]) (sv:=v) (l:=T) (B:=w.heap.size) (by rfl) _ _ (by rfl) (by rfl) HF1.out (by rfl) HO.out.srcB ?o1 ?o2 ?_)
  case o1=>simp;omega
  case o2=>exact HB.out.size
  intro v2 wd ho2 hl2
  have HO2:=Lib.hid ho2
  have HB2:=Lib.hid ((LayF.app hl2).below HB.out HB.out.size (fun k hk=>(owns_lt HF1.out k hk).1))
  clear ho2 hl2
  go_wp2_with fail
  go_ret
  rw [hV.out]
  exact ⟨_,rfl,HO2.out,HB2.out⟩
def HeadW (P:List UInt8→Prop) (w:World) (e:Ending) (w':World):Prop:=∃ bs,P bs∧HeadO w bs e w'
theorem own_fresh2 (w:World) (B x y:Nat) (hx:x < 256) (hy:y < 256) (hB:B≤w.heap.size):OwnB (w.alloc (.cells #[.int .u8 (x:Nat),.int .u8 (y:Nat)] 5)) B (.slice (some ⟨w.heap.size,0,none⟩) 2 2) [UInt8.ofNat x,UInt8.ofNat y]:=by
 refine ⟨rfl,.inr ⟨w.heap.size,2,_,rfl,hB,heap_alloc_new w _,Nat.le_refl _,by unfold maxLen;omega,rfl,?_⟩⟩
 have h1:x % 256=x:=by omega
 have h2:y % 256=y:=by omega
 simp [byteCells,h1,h2]
theorem u64_not (n:Nat) (h:n < 18446744073709551616):∃ m:Nat,m < 18446744073709551616∧bits .xor .u64 IntKind.u64.max (n:Int)=(m:Int):=by
 refine ⟨18446744073709551615 - n,by omega,?_⟩
 have e2:IntKind.u64.max=((2 ^ 64 - 1:Nat):Int):=by decide
 rw [e2,bits_xor_u64_nat _ _ (by decide) (by omega),Lib.xor_ones64 _ (by omega)]
set_option maxRecDepth 100000 in
set_option maxHeartbeats 4000000 in
theorem negative29_calls (n:Nat) (hn:n < okSize) (w:World):Calls Tryz.prog 66 #[.int .u64 (n:Nat)] w (HeadW (fun l=>l.length≤9) w):=by
 obtain ⟨m,hm,hx⟩:=u64_not n hn
 by_cases h0:n < 32
 ·have d0:decide ((n:Int) < 32)=true:=by simp;omega
  obtain ⟨X,hX⟩:∃ X,X=255 - n:=⟨_,rfl⟩
  have w3:IntKind.u64.wrap (255 - (n:Int))=(X:Int):=by rw [IntKind.wrap_u64];omega
  have w4:IntKind.u8.wrap (X:Int)=(X:Int):=IntWalk.u8_in _ (by omega)
  have hX9:X < 256:=by omega
  clear h0 hX hn hm hx
  go_enter Tryz.func66,Tryz.ntmps66
  go_wp2_with fail
  go_ret
  exact ⟨[UInt8.ofNat X],by simp,_,rfl,own_fresh w _ X hX9 (Nat.le_refl _),(Below.refl _ _).alloc (Nat.le_refl _) _⟩
 have d0:decide ((n:Int) < 32)=false:=by simp;omega
 clear h0
 by_cases h1:n < 128
 ·have d1:decide ((n:Int) < 128)=true:=by simp;omega
  clear h1
  have CP:=Lib.hid (fun W=>putHigh_calls m 1 hm W)
  have hlen:(putHighS m 1).length≤8:=by unfold putHighS putLowS;split<;>simp [leBytes_length]
  generalize putHighS m 1=T at CP hlen
  clear hn hm
  go_enter Tryz.func66,Tryz.ntmps66
  go_upto_region 4 with fail
  clear d0 d1
  go_wp2_with fail
  refine (CP.out _).mono ?_
  rintro e wb ⟨v,rfl,ho,hb⟩
  have HO:=Lib.hid ho
  have HF1:Hid (OwnB wb w.heap.size (.slice (some ⟨w.heap.size,0,none⟩) 1 1) [UInt8.ofNat 208]):=(own_fresh w _ 208 (by decide) (Nat.le_refl _)).keep hb
  have HB:Hid (Below w.heap.size w wb):=((Below.refl _ _).alloc (Nat.le_refl _) _).trans (hb.mono (by simp))
  clear ho hb CP
  go_wp2_with (at_builtin;refine wpList_appB (v:=.slice (some ⟨w.heap.size,0,none⟩) 1 1) (bs:=[UInt8.ofNat 208]) (sv:=v) (l:=T) (B:=w.heap.size) (by rfl) _ _ (by rfl) (by rfl) HF1.out (by rfl) HO.out.srcB ?o1 ?o2 ?_)
  case o1=>simp;omega
  case o2=>exact HB.out.size
  intro v2 wd ho2 hl2
  have HO2:=Lib.hid ho2
  have HB2:=Lib.hid ((LayF.app hl2).below HB.out HB.out.size (fun k hk=>(owns_lt HF1.out k hk).1))
  clear ho2 hl2
  go_wp2_with fail
  go_ret
  exact ⟨[UInt8.ofNat 208]++T,by simp;omega,_,rfl,HO2.out,HB2.out⟩
 have d1:decide ((n:Int) < 128)=false:=by simp;omega
 clear h1
 by_cases h2:n < 32768
 ·have d2:decide ((n:Int) < 32768)=true:=by simp;omega
  clear h2
  have CP:=Lib.hid (fun W=>putHigh_calls m 2 hm W)
  have hlen:(putHighS m 2).length≤8:=by unfold putHighS putLowS;split<;>simp [leBytes_length]
  generalize putHighS m 2=T at CP hlen
  clear hn hm
  go_enter Tryz.func66,Tryz.ntmps66
  go_upto_region 6 with fail
  clear d0 d1 d2
  go_wp2_with fail
  refine (CP.out _).mono ?_
  rintro e wb ⟨v,rfl,ho,hb⟩
  have HO:=Lib.hid ho
  have HF1:Hid (OwnB wb w.heap.size (.slice (some ⟨w.heap.size,0,none⟩) 1 1) [UInt8.ofNat 209]):=(own_fresh w _ 209 (by decide) (Nat.le_refl _)).keep hb
  have HB:Hid (Below w.heap.size w wb):=((Below.refl _ _).alloc (Nat.le_refl _) _).trans (hb.mono (by simp))
  clear ho hb CP
  go_wp2_with (at_builtin;refine wpList_appB (v:=.slice (some ⟨w.heap.size,0,none⟩) 1 1) (bs:=[UInt8.ofNat 209]) (sv:=v) (l:=T) (B:=w.heap.size) (by rfl) _ _ (by rfl) (by rfl) HF1.out (by rfl) HO.out.srcB ?o1 ?o2 ?_)
  case o1=>simp;omega
  case o2=>exact HB.out.size
  intro v2 wd ho2 hl2
  have HO2:=Lib.hid ho2
  have HB2:=Lib.hid ((LayF.app hl2).below HB.out HB.out.size (fun k hk=>(owns_lt HF1.out k hk).1))
  clear ho2 hl2
  go_wp2_with fail
  go_ret
  exact ⟨[UInt8.ofNat 209]++T,by simp;omega,_,rfl,HO2.out,HB2.out⟩
 have d2:decide ((n:Int) < 32768)=false:=by simp;omega
 clear h2
 by_cases h3:n < 2147483648
 ·have d3:decide ((n:Int) < 2147483648)=true:=by simp;omega
  clear h3
  have CP:=Lib.hid (fun W=>putHigh_calls m 4 hm W)
  have hlen:(putHighS m 4).length≤8:=by unfold putHighS putLowS;split<;>simp [leBytes_length]
  generalize putHighS m 4=T at CP hlen
  clear hn hm
  go_enter Tryz.func66,Tryz.ntmps66
  go_upto_region 8 with fail
  clear d0 d1 d2 d3
  go_wp2_with fail
  refine (CP.out _).mono ?_
  rintro e wb ⟨v,rfl,ho,hb⟩
  have HO:=Lib.hid ho
  have HF1:Hid (OwnB wb w.heap.size (.slice (some ⟨w.heap.size,0,none⟩) 1 1) [UInt8.ofNat 210]):=(own_fresh w _ 210 (by decide) (Nat.le_refl _)).keep hb
  have HB:Hid (Below w.heap.size w wb):=((Below.refl _ _).alloc (Nat.le_refl _) _).trans (hb.mono (by simp))
  clear ho hb CP
  go_wp2_with (at_builtin;refine wpList_appB (v:=.slice (some ⟨w.heap.size,0,none⟩) 1 1) (bs:=[UInt8.ofNat 210]) (sv:=v) (l:=T) (B:=w.heap.size) (by rfl) _ _ (by rfl) (by rfl) HF1.out (by rfl) HO.out.srcB ?o1 ?o2 ?_)
  case o1=>simp;omega
  case o2=>exact HB.out.size
  intro v2 wd ho2 hl2
  have HO2:=Lib.hid ho2
  have HB2:=Lib.hid ((LayF.app hl2).below HB.out HB.out.size (fun k hk=>(owns_lt HF1.out k hk).1))
  clear ho2 hl2
  go_wp2_with fail
  go_ret
  exact ⟨[UInt8.ofNat 210]++T,by simp;omega,_,rfl,HO2.out,HB2.out⟩
 have d3:decide ((n:Int) < 2147483648)=false:=by simp;omega
 clear h3
 have CP:=Lib.hid (fun W=>putHigh_calls m 8 hm W)
 have hlen:(putHighS m 8).length≤8:=by unfold putHighS putLowS;split<;>simp [leBytes_length]
 generalize putHighS m 8=T at CP hlen
 clear hn hm
 go_enter Tryz.func66,Tryz.ntmps66
 go_upto_region 9 with fail
 clear d0 d1 d2 d3
 go_wp2_with fail
 refine (CP.out _).mono ?_
 rintro e wb ⟨v,rfl,ho,hb⟩
 have HO:=Lib.hid ho
 have HF1:Hid (OwnB wb w.heap.size (.slice (some ⟨w.heap.size,0,none⟩) 1 1) [UInt8.ofNat 211]):=(own_fresh w _ 211 (by decide) (Nat.le_refl _)).keep hb
 have HB:Hid (Below w.heap.size w wb):=((Below.refl _ _).alloc (Nat.le_refl _) _).trans (hb.mono (by simp))
 clear ho hb CP
 go_wp2_with (at_builtin;refine wpList_appB (v:=.slice (some ⟨w.heap.size,0,none⟩) 1 1) (bs:=[UInt8.ofNat 211]) (sv:=v) (l:=T) (B:=w.heap.size) (by rfl) _ _ (by rfl) (by rfl) HF1.out (by rfl) HO.out.srcB ?o1 ?o2 ?_)
 case o1=>simp;omega
 case o2=>exact HB.out.size
 intro v2 wd ho2 hl2
 have HO2:=Lib.hid ho2
 have HB2:=Lib.hid ((LayF.app hl2).below HB.out HB.out.size (fun k hk=>(owns_lt HF1.out k hk).1))
 clear ho2 hl2
 go_wp2_with fail
 go_ret
 exact ⟨[UInt8.ofNat 211]++T,by simp;omega,_,rfl,HO2.out,HB2.out⟩
theorem form_len (first n least:Nat) (hl:least≤8):(formB first n least).length≤9:=by
 have:=wideM_cases n
 simp only [formB,List.length_cons,List.length_reverse,leBytes_length,Nat.max_def]
 split<;>omega
theorem form_len4 (first n least:Nat) (hl:least≤2) (hn:n < 4294967296):(formB first n least).length≤5:=by
 have:wideM n=1∨wideM n=2∨wideM n=4:=by unfold wideM;(repeat' split)<;>first|simp|omega
 simp only [formB,List.length_cons,List.length_reverse,leBytes_length,Nat.max_def]
 split<;>omega
set_option maxRecDepth 100000 in
set_option maxHeartbeats 4000000 in
theorem ext29_calls (n k:Nat) (hn:n < 4294967296) (hk:k < 256) (w:World):Calls Tryz.prog 67 #[.int .u64 (n:Nat),.int .u64 (k:Nat)] w (HeadW (fun l=>l.length≤9) w):=by
 have w1:IntKind.u8.wrap (k:Int)=(k:Int):=IntWalk.u8_in _ (by omega)
 by_cases h0:n=1
 ·subst h0
  go_enter Tryz.func67,Tryz.ntmps67
  go_wp2_with fail
  go_ret
  exact ⟨[UInt8.ofNat 212,UInt8.ofNat k],by simp,_,rfl,own_fresh2 w _ 212 k (by omega) hk (Nat.le_refl _),(Below.refl _ _).alloc (Nat.le_refl _) _⟩
 have d0:((n:Int) == 1)=false:=by simp;omega
 by_cases h1:n=2
 ·subst h1
  go_enter Tryz.func67,Tryz.ntmps67
  go_wp2_with fail
  go_ret
  exact ⟨[UInt8.ofNat 213,UInt8.ofNat k],by simp,_,rfl,own_fresh2 w _ 213 k (by omega) hk (Nat.le_refl _),(Below.refl _ _).alloc (Nat.le_refl _) _⟩
 have d1:((n:Int) == 2)=false:=by simp;omega
 by_cases h2:n=4
 ·subst h2
  go_enter Tryz.func67,Tryz.ntmps67
  go_wp2_with fail
  go_ret
  exact ⟨[UInt8.ofNat 214,UInt8.ofNat k],by simp,_,rfl,own_fresh2 w _ 214 k (by omega) hk (Nat.le_refl _),(Below.refl _ _).alloc (Nat.le_refl _) _⟩
 have d2:((n:Int) == 4)=false:=by simp;omega
 by_cases h3:n=8
 ·subst h3
  go_enter Tryz.func67,Tryz.ntmps67
  go_wp2_with fail
  go_ret
  exact ⟨[UInt8.ofNat 215,UInt8.ofNat k],by simp,_,rfl,own_fresh2 w _ 215 k (by omega) hk (Nat.le_refl _),(Below.refl _ _).alloc (Nat.le_refl _) _⟩
 have d3:((n:Int) == 8)=false:=by simp;omega
 by_cases h4:n=16
 ·subst h4
  go_enter Tryz.func67,Tryz.ntmps67
  go_wp2_with fail
  go_ret
  exact ⟨[UInt8.ofNat 216,UInt8.ofNat k],by simp,_,rfl,own_fresh2 w _ 216 k (by omega) hk (Nat.le_refl _),(Below.refl _ _).alloc (Nat.le_refl _) _⟩
 have d4:((n:Int) == 16)=false:=by simp;omega
 have CF:=Lib.hid (fun W=>form29_calls 199 n 1 (by omega) (.inl rfl) (by unfold okSize;omega) W)
 have HL:=Lib.hid (form_len4 199 n 1 (by omega) hn)
 generalize formB 199 n 1=T at CF HL
 clear h0 h1 h2 h3 h4 hn
 go_enter Tryz.func67,Tryz.ntmps67
 go_wp2_with fail
 refine (CF.out _).mono ?_
 rintro e wb ⟨v,rfl,hst⟩
 have HST:=Lib.hid hst
 have hsz:=hst.size
 clear hst CF
 go_wp2_with (at_builtin;refine wpList_appB (v:=v) (bs:=T) (sv:=.slice (some ⟨wb.heap.size,0,none⟩) 1 1) (l:=[UInt8.ofNat k]) (B:=w.heap.size) (by rfl) _ _ (by rfl) (by rfl) (HST.out.alloc _).1 (by rfl) (srcB_one wb k hk) ?o1 ?o2 ?_)
 case o1=>have:=HL.out;simp;omega
 case o2=>simp;omega
 intro v2 wd ho2 hl2
 have HO2:=Lib.hid ho2
 have HB2:=Lib.hid ((LayF.app hl2).below (HST.out.alloc _).2 (HST.out.alloc _).size (fun k hk=>(owns_lt (HST.out.alloc (.cells #[.int .u8 (k:Nat)] 5)).1 k hk).1))
 clear ho2 hl2
 go_wp2_with fail
 go_ret
 exact ⟨T++[UInt8.ofNat k],by have:=HL.out;simp;omega,_,rfl,HO2.out,HB2.out⟩
def TxH (l:List UInt8):Prop:=∃ c r,l=c::r∧160≤c.toNat
def MpH (l:List UInt8):Prop:=(∃ c,l=[c]∧128≤c.toNat∧c.toNat≤143)∨(∃ a b,l=[222,a,b])∨∃ a b c d,l=[223,a,b,c,d]∧1≤b.toNat
def HdP (k:Int) (l:List UInt8):Prop:=l.length≤9∧(k=4→TxH l)∧(k=6→MpH l)
theorem St.upZ {w wa W:World} {v:Value} {bs:List UInt8} (hb:Below w.heap.size w wa) (h:St wa v bs W):St w v bs W:=⟨h.1.weaken hb.size,hb.trans (h.2.mono hb.size)⟩
theorem toNat_ofNat8 (n:Nat) (h:n < 256):(UInt8.ofNat n).toNat=n:=by simp;omega
theorem own_freshG (w:World) (B x g:Nat) (hx:x < 256) (hg:g=w.heap.size) (hB:B≤w.heap.size):OwnB (w.alloc (.cells #[.int .u8 (x:Nat)] 5)) B (.slice (some ⟨g,0,none⟩) 1 1) [UInt8.ofNat x]:=by
 subst hg;exact own_fresh w B x hx hB
theorem form_tx (n:Nat):TxH (formB 217 n 1):=by
 refine ⟨_,_,rfl,?_⟩
 rcases wideM_cases n with h|h|h|h<;>rw [h]<;>decide
theorem leB2 (n:Nat):∃ a b,(leBytes 2 n).reverse=[a,b]:=⟨_,_,rfl⟩
theorem leB4z (n:Nat) (h:65536≤n) (h2:n < 16777216):∃ a b c d,(leBytes 4 n).reverse=[a,b,c,d]∧1≤b.toNat:=
 ⟨_,_,_,_,rfl,by simp;omega⟩
theorem form_mp (n:Nat) (hn:n < 16777216):MpH (formB 222 n 2):=by
 have:wideM n=1∨wideM n=2∨wideM n=4:=by unfold wideM;(repeat' split)<;>omega
 rcases this with h|h|h<;>unfold formB<;>rw [h]
 ·obtain ⟨a,b,e⟩:=leB2 n
  refine .inr (.inl ⟨a,b,?_⟩)
  rw [show Nat.max 1 2=2 from rfl,e];rfl
 ·obtain ⟨a,b,e⟩:=leB2 n
  refine .inr (.inl ⟨a,b,?_⟩)
  rw [show Nat.max 2 2=2 from rfl,e];rfl
 ·have h6:65536≤n:=by
   rcases Nat.lt_or_ge n 65536 with h7|h7
   ·unfold wideM at h
    rw [if_pos h7] at h
    split at h<;>omega
   ·exact h7
  obtain ⟨a,b,c,d,e,hb⟩:=leB4z n h6 hn
  refine .inr (.inr ⟨a,b,c,d,?_,hb⟩)
  rw [show Nat.max 4 2=4 from rfl,e];rfl
set_option maxRecDepth 100000 in
set_option maxHeartbeats 4000000 in
theorem head29_1 (n:Nat) (ab:Option Addr) (nb cb:Nat) (text:ByteArray) (ak:Option Addr) (nk ck:Nat) (hn:n < okSize) (w:World):Calls Tryz.prog 45 #[.agg (itCells 1 n ab nb cb text ak nk ck)] w (HeadW (HdP 1) w):=by
 have HB:Hid (Below w.heap.size w (w.alloc (.cells #[.int .i64 1,.int .u64 (n:Nat),.slice ab nb cb,.string text,.slice ak nk ck] 39))):=Lib.hid ((Below.refl _ _).alloc (Nat.le_refl _) _)
 by_cases h0:n < 128
 ·have d0:decide ((n:Int) < 128)=true:=by simp;omega
  have w1:IntKind.u8.wrap (n:Int)=(n:Int):=IntWalk.u8_in _ (by omega)
  have hX9:n < 256:=by omega
  have HP:Hid (HdP 1 [UInt8.ofNat n]):=Lib.hid ⟨by simp,by omega,by omega⟩
  clear h0 hn
  go_enter Tryz.func45,Tryz.ntmps45
  go_wp2_with fail
  go_ret
  exact ⟨_,HP.out,_,rfl,own_freshG _ _ (n) _ hX9 (by simp) HB.out.size,HB.out.alloc HB.out.size _⟩
 ·have d0:decide ((n:Int) < 128)=false:=by simp;omega
  have CF:=Lib.hid (fun W=>form29_calls 204 n 1 (by omega) (.inl rfl) hn W)
  have HP:Hid (HdP 1 (formB 204 n 1)):=Lib.hid ⟨form_len 204 n 1 (by omega),by omega,by omega⟩
  generalize formB 204 n 1=T at CF HP
  clear h0 hn
  go_enter Tryz.func45,Tryz.ntmps45
  go_wp2_with fail
  refine (CF.out _).mono ?_
  rintro e wb ⟨v,rfl,hst⟩
  have HS:=Lib.hid (St.upZ HB.out hst)
  clear hst CF
  go_wp2_with fail
  go_ret
  exact ⟨_,HP.out,_,rfl,HS.out⟩
set_option maxRecDepth 100000 in
set_option maxHeartbeats 4000000 in
theorem head29_2 (n:Nat) (ab:Option Addr) (nb cb:Nat) (text:ByteArray) (ak:Option Addr) (nk ck:Nat) (hn:n < okSize) (w:World):Calls Tryz.prog 45 #[.agg (itCells 2 n ab nb cb text ak nk ck)] w (HeadW (HdP 2) w):=by
 have HB:Hid (Below w.heap.size w (w.alloc (.cells #[.int .i64 2,.int .u64 (n:Nat),.slice ab nb cb,.string text,.slice ak nk ck] 39))):=Lib.hid ((Below.refl _ _).alloc (Nat.le_refl _) _)
 have CF:=Lib.hid (fun W=>negative29_calls n hn W)
 clear hn
 go_enter Tryz.func45,Tryz.ntmps45
 go_wp2_with fail
 refine (CF.out _).mono ?_
 rintro e wb ⟨T,hT,v,rfl,hst⟩
 have HS:=Lib.hid (St.upZ HB.out hst)
 have HP:Hid (HdP 2 T):=Lib.hid ⟨hT,by omega,by omega⟩
 clear hst CF hT
 go_wp2_with fail
 go_ret
 exact ⟨_,HP.out,_,rfl,HS.out⟩
set_option maxRecDepth 100000 in
set_option maxHeartbeats 4000000 in
theorem head29_3 (n:Nat) (ab:Option Addr) (nb cb:Nat) (text:ByteArray) (ak:Option Addr) (nk ck:Nat) (hb:nb≤1000000) (w:World):Calls Tryz.prog 45 #[.agg (itCells 3 n ab nb cb text ak nk ck)] w (HeadW (HdP 3) w):=by
 have HB:Hid (Below w.heap.size w (w.alloc (.cells #[.int .i64 3,.int .u64 (n:Nat),.slice ab nb cb,.string text,.slice ak nk ck] 39))):=Lib.hid ((Below.refl _ _).alloc (Nat.le_refl _) _)
 have w1:IntKind.u64.wrap (nb:Int)=(nb:Int):=by rw [IntKind.wrap_u64];omega
 have CF:=Lib.hid (fun W=>form29_calls 196 nb 1 (by omega) (.inl rfl) (by unfold okSize;omega) W)
 have HP:Hid (HdP 3 (formB 196 nb 1)):=Lib.hid ⟨form_len 196 nb 1 (by omega),by omega,by omega⟩
 generalize formB 196 nb 1=T at CF HP
 clear hb
 go_enter Tryz.func45,Tryz.ntmps45
 go_wp2_with fail
 refine (CF.out _).mono ?_
 rintro e wb ⟨v,rfl,hst⟩
 have HS:=Lib.hid (St.upZ HB.out hst)
 clear hst CF
 go_wp2_with fail
 go_ret
 exact ⟨_,HP.out,_,rfl,HS.out⟩
set_option maxRecDepth 100000 in
set_option maxHeartbeats 4000000 in
theorem head29_4 (n:Nat) (ab:Option Addr) (nb cb:Nat) (text:ByteArray) (ak:Option Addr) (nk ck:Nat) (hb:text.size≤1000000) (w:World):Calls Tryz.prog 45 #[.agg (itCells 4 n ab nb cb text ak nk ck)] w (HeadW (HdP 4) w):=by
 have HB:Hid (Below w.heap.size w (w.alloc (.cells #[.int .i64 4,.int .u64 (n:Nat),.slice ab nb cb,.string text,.slice ak nk ck] 39))):=Lib.hid ((Below.refl _ _).alloc (Nat.le_refl _) _)
 obtain ⟨ts,hts⟩:∃ q,q=text.size:=⟨_,rfl⟩
 have hts2:text.size=ts:=hts.symm
 rw [hts2] at hb
 by_cases h0:ts < 32
 ·have d0:decide ((ts:Int) < 32)=true:=by simp;omega
  obtain ⟨X,hX⟩:∃ X,X=160+ts:=⟨_,rfl⟩
  have w1:IntKind.i64.wrap (160+(ts:Int))=(X:Int):=(IntWalk.i64_in _ (by omega)).trans (by omega)
  have w2:IntKind.u8.wrap (X:Int)=(X:Int):=IntWalk.u8_in _ (by omega)
  have hX9:X < 256:=by omega
  have HP:Hid (HdP 4 [UInt8.ofNat X]):=Lib.hid ⟨by simp,fun _=>⟨_,_,rfl,by rw [toNat_ofNat8 X hX9];omega⟩,by omega⟩
  clear h0 hX hb hts
  go_enter Tryz.func45,Tryz.ntmps45
  go_wp2_with fail
  go_ret
  exact ⟨_,HP.out,_,rfl,own_freshG _ _ (X) _ hX9 (by simp) HB.out.size,HB.out.alloc HB.out.size _⟩
 ·have d0:decide ((ts:Int) < 32)=false:=by simp;omega
  have w1:IntKind.u64.wrap (ts:Int)=(ts:Int):=by rw [IntKind.wrap_u64];omega
  have CF:=Lib.hid (fun W=>form29_calls 217 ts 1 (by omega) (.inl rfl) (by unfold okSize;omega) W)
  have HP:Hid (HdP 4 (formB 217 ts 1)):=Lib.hid ⟨form_len 217 ts 1 (by omega),fun _=>form_tx ts,by omega⟩
  generalize formB 217 ts 1=T at CF HP
  clear h0 hb hts
  go_enter Tryz.func45,Tryz.ntmps45
  go_wp2_with fail
  refine (CF.out _).mono ?_
  rintro e wb ⟨v,rfl,hst⟩
  have HS:=Lib.hid (St.upZ HB.out hst)
  clear hst CF
  go_wp2_with fail
  go_ret
  exact ⟨_,HP.out,_,rfl,HS.out⟩
set_option maxRecDepth 100000 in
set_option maxHeartbeats 4000000 in
theorem head29_5 (n:Nat) (ab:Option Addr) (nb cb:Nat) (text:ByteArray) (ak:Option Addr) (nk ck:Nat) (hb:nk≤1000000) (w:World):Calls Tryz.prog 45 #[.agg (itCells 5 n ab nb cb text ak nk ck)] w (HeadW (HdP 5) w):=by
 have HB:Hid (Below w.heap.size w (w.alloc (.cells #[.int .i64 5,.int .u64 (n:Nat),.slice ab nb cb,.string text,.slice ak nk ck] 39))):=Lib.hid ((Below.refl _ _).alloc (Nat.le_refl _) _)
 by_cases h0:nk < 16
 ·have d0:decide ((nk:Int) < 16)=true:=by simp;omega
  obtain ⟨X,hX⟩:∃ X,X=144+nk:=⟨_,rfl⟩
  have w1:IntKind.i64.wrap (144+(nk:Int))=(X:Int):=(IntWalk.i64_in _ (by omega)).trans (by omega)
  have w2:IntKind.u8.wrap (X:Int)=(X:Int):=IntWalk.u8_in _ (by omega)
  have hX9:X < 256:=by omega
  have HP:Hid (HdP 5 [UInt8.ofNat X]):=Lib.hid ⟨by simp,by omega,by omega⟩
  clear h0 hX hb
  go_enter Tryz.func45,Tryz.ntmps45
  go_wp2_with fail
  go_ret
  exact ⟨_,HP.out,_,rfl,own_freshG _ _ (X) _ hX9 (by simp) HB.out.size,HB.out.alloc HB.out.size _⟩
 ·have d0:decide ((nk:Int) < 16)=false:=by simp;omega
  have w1:IntKind.u64.wrap (nk:Int)=(nk:Int):=by rw [IntKind.wrap_u64];omega
  have CF:=Lib.hid (fun W=>form29_calls 220 nk 2 (by omega) (.inr rfl) (by unfold okSize;omega) W)
  have HP:Hid (HdP 5 (formB 220 nk 2)):=Lib.hid ⟨form_len 220 nk 2 (by omega),by omega,by omega⟩
  generalize formB 220 nk 2=T at CF HP
  clear h0 hb
  go_enter Tryz.func45,Tryz.ntmps45
  go_wp2_with fail
  refine (CF.out _).mono ?_
  rintro e wb ⟨v,rfl,hst⟩
  have HS:=Lib.hid (St.upZ HB.out hst)
  clear hst CF
  go_wp2_with fail
  go_ret
  exact ⟨_,HP.out,_,rfl,HS.out⟩
set_option maxRecDepth 100000 in
set_option maxHeartbeats 4000000 in
theorem head29_6 (n:Nat) (ab:Option Addr) (nb cb:Nat) (text:ByteArray) (ak:Option Addr) (nk ck:Nat) (hb:nk≤1000000) (w:World):Calls Tryz.prog 45 #[.agg (itCells 6 n ab nb cb text ak nk ck)] w (HeadW (HdP 6) w):=by
 have HB:Hid (Below w.heap.size w (w.alloc (.cells #[.int .i64 6,.int .u64 (n:Nat),.slice ab nb cb,.string text,.slice ak nk ck] 39))):=Lib.hid ((Below.refl _ _).alloc (Nat.le_refl _) _)
 obtain ⟨hf,hhf⟩:∃ q,q=nk / 2:=⟨_,rfl⟩
 have w0:(nk:Int).tdiv 2=(hf:Int):=by rw [hhf,Int.tdiv_eq_ediv_of_nonneg (by omega)];omega
 have w9:IntKind.i64.wrap (hf:Int)=(hf:Int):=IntWalk.i64_in _ (by omega)
 by_cases h0:nk < 32
 ·have d0:decide ((nk:Int) < 32)=true:=by simp;omega
  obtain ⟨X,hX⟩:∃ X,X=128+hf:=⟨_,rfl⟩
  have w1:IntKind.i64.wrap (128+(hf:Int))=(X:Int):=(IntWalk.i64_in _ (by omega)).trans (by omega)
  have w2:IntKind.u8.wrap (X:Int)=(X:Int):=IntWalk.u8_in _ (by omega)
  have hX9:X < 256:=by omega
  have HP:Hid (HdP 6 [UInt8.ofNat X]):=Lib.hid ⟨by simp,by omega,fun _=>.inl ⟨_,rfl,by rw [toNat_ofNat8 X hX9];omega,by rw [toNat_ofNat8 X hX9];omega⟩⟩
  clear h0 hX hb hhf
  go_enter Tryz.func45,Tryz.ntmps45
  go_wp2_with fail
  go_ret
  exact ⟨_,HP.out,_,rfl,own_freshG _ _ (X) _ hX9 (by simp) HB.out.size,HB.out.alloc HB.out.size _⟩
 ·have d0:decide ((nk:Int) < 32)=false:=by simp;omega
  have w1:IntKind.u64.wrap (hf:Int)=(hf:Int):=by rw [IntKind.wrap_u64];omega
  have CF:=Lib.hid (fun W=>form29_calls 222 hf 2 (by omega) (.inr rfl) (by unfold okSize;omega) W)
  have HP:Hid (HdP 6 (formB 222 hf 2)):=Lib.hid ⟨form_len 222 hf 2 (by omega),by omega,fun _=>form_mp hf (by omega)⟩
  generalize formB 222 hf 2=T at CF HP
  clear h0 hb hhf
  go_enter Tryz.func45,Tryz.ntmps45
  go_wp2_with fail
  refine (CF.out _).mono ?_
  rintro e wb ⟨v,rfl,hst⟩
  have HS:=Lib.hid (St.upZ HB.out hst)
  clear hst CF
  go_wp2_with fail
  go_ret
  exact ⟨_,HP.out,_,rfl,HS.out⟩
set_option maxRecDepth 100000 in
set_option maxHeartbeats 4000000 in
theorem head29_8 (n:Nat) (ab:Option Addr) (nb cb:Nat) (text:ByteArray) (ak:Option Addr) (nk ck:Nat) (hn:n=20∨n=21∨n=22) (w:World):Calls Tryz.prog 45 #[.agg (itCells 8 n ab nb cb text ak nk ck)] w (HeadW (HdP 8) w):=by
 rcases hn with rfl|rfl|rfl
 ·have HB:Hid (Below w.heap.size w (w.alloc (.cells #[.int .i64 8,.int .u64 (20:Nat),.slice ab nb cb,.string text,.slice ak nk ck] 39))):=Lib.hid ((Below.refl _ _).alloc (Nat.le_refl _) _)
  go_enter Tryz.func45,Tryz.ntmps45
  go_wp2_with fail
  go_ret
  exact ⟨[UInt8.ofNat 194],⟨by simp,by omega,by omega⟩,_,rfl,own_freshG _ _ 194 _ (by omega) (by simp) (HB.out.alloc HB.out.size _).size,(HB.out.alloc HB.out.size _).alloc (HB.out.alloc HB.out.size _).size _⟩
 ·have HB:Hid (Below w.heap.size w (w.alloc (.cells #[.int .i64 8,.int .u64 (21:Nat),.slice ab nb cb,.string text,.slice ak nk ck] 39))):=Lib.hid ((Below.refl _ _).alloc (Nat.le_refl _) _)
  go_enter Tryz.func45,Tryz.ntmps45
  go_wp2_with fail
  go_ret
  exact ⟨[UInt8.ofNat 195],⟨by simp,by omega,by omega⟩,_,rfl,own_freshG _ _ 195 _ (by omega) (by simp) (HB.out.alloc HB.out.size _).size,(HB.out.alloc HB.out.size _).alloc (HB.out.alloc HB.out.size _).size _⟩
 ·have HB:Hid (Below w.heap.size w (w.alloc (.cells #[.int .i64 8,.int .u64 (22:Nat),.slice ab nb cb,.string text,.slice ak nk ck] 39))):=Lib.hid ((Below.refl _ _).alloc (Nat.le_refl _) _)
  go_enter Tryz.func45,Tryz.ntmps45
  go_wp2_with fail
  go_ret
  exact ⟨[UInt8.ofNat 192],⟨by simp,by omega,by omega⟩,_,rfl,own_freshG _ _ 192 _ (by omega) (by simp) (HB.out.alloc HB.out.size _).size,(HB.out.alloc HB.out.size _).alloc (HB.out.alloc HB.out.size _).size _⟩
set_option maxRecDepth 100000 in
set_option maxHeartbeats 4000000 in
theorem head29_9 (n:Nat) (ab:Option Addr) (nb cb:Nat) (text:ByteArray) (ak:Option Addr) (nk ck:Nat) (hn:n < okSize) (w:World):Calls Tryz.prog 45 #[.agg (itCells 9 n ab nb cb text ak nk ck)] w (HeadW (HdP 9) w):=by
 have HB:Hid (Below w.heap.size w (w.alloc (.cells #[.int .i64 9,.int .u64 (n:Nat),.slice ab nb cb,.string text,.slice ak nk ck] 39))):=Lib.hid ((Below.refl _ _).alloc (Nat.le_refl _) _)
 obtain ⟨wa,hwa⟩:∃ W,W=(w.alloc (.cells #[.int .i64 9,.int .u64 (n:Nat),.slice ab nb cb,.string text,.slice ak nk ck] 39)):=⟨_,rfl⟩
 rw [← hwa] at HB
 have CP:=Lib.hid (fun W=>putHigh_calls n 8 hn W)
 have hlen:(putHighS n 8).length=8:=putHighS_len n
 generalize putHighS n 8=T at CP hlen
 have l0:w.heap.size < wa.heap.size:=by rw [hwa];simp
 have c0:wa.cell? ⟨w.heap.size,0,none⟩=some (.int .i64 9):=by rw [hwa];simp [go_sem]
 have c1:wa.cell? ⟨w.heap.size,1,none⟩=some (.int .u64 (n:Nat)):=by rw [hwa];simp [go_sem]
 clear hn
 go_enter Tryz.func45,Tryz.ntmps45
 go_upto_region 1 with fail
 rw [← hwa]
 clear hwa
 go_wp2_with fail
 refine (CP.out _).mono ?_
 rintro e wb ⟨v,rfl,ho,hb⟩
 have HO:=Lib.hid ho
 have HF1:Hid (OwnB wb w.heap.size (.slice (some ⟨wa.heap.size,0,none⟩) 1 1) [UInt8.ofNat 203]):=(own_fresh wa _ 203 (by decide) HB.out.size).keep hb
 have HB2:Hid (Below w.heap.size w wb):=(HB.out.alloc HB.out.size _).trans (hb.mono (by have:=HB.out.size;simp;omega))
 clear ho hb CP c0 c1 l0
 go_wp2_with (at_builtin;refine wpList_appB (v:=.slice (some ⟨wa.heap.size,0,none⟩) 1 1) (bs:=[UInt8.ofNat 203]) (sv:=v) (l:=T) (B:=w.heap.size) (by rfl) _ _ (by rfl) (by rfl) HF1.out (by rfl) HO.out.srcB ?o1 ?o2 ?_)
 case o1=>simp;omega
 case o2=>exact HB2.out.size
 intro v2 wd ho2 hl2
 have HO2:=Lib.hid ho2
 have HB3:=Lib.hid ((LayF.app hl2).below HB2.out HB2.out.size (fun k hk=>(owns_lt HF1.out k hk).1))
 clear ho2 hl2
 go_wp2_with fail
 go_ret
 exact ⟨[UInt8.ofNat 203]++T,⟨by simp;omega,by omega,by omega⟩,_,rfl,HO2.out,HB3.out⟩
set_option maxRecDepth 100000 in
set_option maxHeartbeats 4000000 in
theorem head29_10 (n:Nat) (ab:Option Addr) (nb cb:Nat) (text:ByteArray) (ak:Option Addr) (nk ck:Nat) (hn:n≤127) (hb:nb≤1000000) (w:World):Calls Tryz.prog 45 #[.agg (itCells 10 n ab nb cb text ak nk ck)] w (HeadW (HdP 10) w):=by
 have HB:Hid (Below w.heap.size w (w.alloc (.cells #[.int .i64 10,.int .u64 (n:Nat),.slice ab nb cb,.string text,.slice ak nk ck] 39))):=Lib.hid ((Below.refl _ _).alloc (Nat.le_refl _) _)
 have w1:IntKind.u64.wrap (nb:Int)=(nb:Int):=by rw [IntKind.wrap_u64];omega
 have CF:=Lib.hid (fun W=>ext29_calls nb n (by omega) (by omega) W)
 clear hn hb
 go_enter Tryz.func45,Tryz.ntmps45
 go_wp2_with fail
 refine (CF.out _).mono ?_
 rintro e wb ⟨T,hT,v,rfl,hst⟩
 have HS:=Lib.hid (St.upZ HB.out hst)
 have HP:Hid (HdP 10 T):=Lib.hid ⟨hT,by omega,by omega⟩
 clear hst CF hT
 go_wp2_with fail
 go_ret
 exact ⟨_,HP.out,_,rfl,HS.out⟩
def LyP:I→List UInt8→Prop
 | .mk k n bs text kids,l=>l.length≤szM (.mk k n bs text kids)∧(k=4→TxH l)∧(k=6→∃ h r,l=h++r∧MpH h∧(kids.len=0→r=[])∧(hdT kids→0 < kids.len→TxH r))
theorem TxH.app {l:List UInt8} (m:List UInt8) (h:TxH l):TxH (l++m):=by
 obtain ⟨c,r,rfl,h⟩:=h
 exact ⟨c,r++m,rfl,h⟩
theorem LyP.tx {x:I} {l:List UInt8} (h:LyP x l) (hk:I.kind x=4):TxH l:=by
 cases x with
 | mk k n bs text kids=>exact h.2.1 hk
theorem hdT_get {f:IL} {x:I} (h:hdT f) (hx:f.get? 0=some x):I.kind x=4:=by
 cases f with
 | nil=>simp [IL.get?] at hx
 | cons y r=>
  simp only [IL.get?,Option.some.injEq] at hx
  subst hx;exact h
theorem LyP.len {x:I} {l:List UInt8} (h:LyP x l):l.length≤szM x:=by
 cases x with
 | mk k n bs text kids=>exact h.1
theorem head29_all (k:Int) (n:Nat) (ab:Option Addr) (nb cb:Nat) (text:ByteArray) (ak:Option Addr) (nk ck:Nat) (hg:goodM k n nb text.size nk) (hn:n < okSize) (h1:nb≤1000000) (h2:text.size≤1000000) (h3:nk≤1000000) (w:World) :
  Calls Tryz.prog 45 #[.agg (itCells k n ab nb cb text ak nk ck)] w (HeadW (HdP k) w):=by
 rcases hg with ⟨rfl,h⟩|⟨rfl,h⟩|⟨rfl,h⟩|⟨rfl,h⟩|⟨rfl,h⟩|⟨rfl,h⟩|⟨rfl,h,-⟩|⟨rfl,h⟩|⟨rfl,h⟩
 ·exact head29_1 n ab nb cb text ak nk ck hn w
 ·exact head29_2 n ab nb cb text ak nk ck hn w
 ·exact head29_3 n ab nb cb text ak nk ck h1 w
 ·exact head29_4 n ab nb cb text ak nk ck h2 w
 ·exact head29_5 n ab nb cb text ak nk ck h3 w
 ·exact head29_6 n ab nb cb text ak nk ck h3 w
 ·exact head29_8 n ab nb cb text ak nk ck h w
 ·exact head29_9 n ab nb cb text ak nk ck hn w
 ·exact head29_10 n ab nb cb text ak nk ck h.1 h1 w
def LayMSaid (d:Nat):Prop:=∀ x:I,szM x≤d→OkM x→∀ (w:World) (c:Array Value),RdIt (fun _=>True) w x c→Calls Tryz.prog 26 #[.agg c] w (HeadW (LyP x) w)
def MRel (wa:World) (kids:IL) (H:List UInt8) (M:Nat) (q i:Value) (wr:World):Prop:=
 ∃ (j:Nat) (v:Value) (r:List UInt8),i=.int .i64 j∧v=q∧j≤kids.len∧Hid (St wa v (H++r) wr)∧Hid ((H++r).length+szMs (kids.drop j)≤M)∧Hid ((j=0→r=[])∧(hdT kids→0 < j→TxH r))
theorem m_next {kids:IL} {j:Nat} {x:I} {r L:List UInt8} (hx:kids.get? j=some x) (hl:LyP x L) (h:(j=0→r=[])∧(hdT kids→0 < j→TxH r)):(j+1=0→r++L=[])∧(hdT kids→0 < j+1→TxH (r++L)):=by
 refine ⟨by omega,fun hh _=>?_⟩
 by_cases h0:j=0
 ·subst h0
  rw [h.1 rfl]
  exact hl.tx (hdT_get hh hx)
 ·exact (h.2 hh (by omega)).app _
theorem m_fin {k:Int} {n:Nat} {ys:List UInt8} {text:ByteArray} {kids:IL} {hd r:List UInt8} {nk:Nat} (hg:goodM k n ys.length text.size kids.len) (hp:HdP k hd) (hlen:(hd++ys++sl text++r).length≤szM (.mk k n ys text kids)) (hk:kids.len=nk) (h:(nk=0→r=[])∧(hdT kids→0 < nk→TxH r)):LyP (.mk k n ys text kids) (hd++ys++sl text++r):=by
 refine ⟨hlen,fun e=>?_,fun e=>?_⟩
 ·exact (((hp.2.1 e).app _).app _).app _
 ·subst e
  have hs:=sl_len text
  have h0:ys.length=0∧text.size=0:=by unfold goodM at hg;omega
  have e1:ys=[]:=List.eq_nil_of_length_eq_zero h0.1
  have e2:sl text=[]:=List.eq_nil_of_length_eq_zero (by omega)
  refine ⟨hd,r,by rw [e1,e2];simp,hp.2.2 rfl,fun e3=>h.1 (by omega),fun e3 e4=>h.2 e3 (by omega)⟩
set_option maxRecDepth 100000 in
set_option maxHeartbeats 8000000 in
theorem lay29_step (d:Nat) (hd9:d≤1000000) (hof:LayMSaid d):LayMSaid (d+1):=by
 intro x hd hokm w c hr
 obtain ⟨k,n,ys,text,kids⟩:=x
 obtain ⟨hg,-,hks9⟩:=hokm
 obtain ⟨ab,nb,cb,ak,nk,ck,rfl,hok,hbs,hkl,hrm,hks⟩:=hr
 obtain ⟨wa,hwa⟩:∃ W,W=w.alloc (.cells #[.int .i64 k,.int .u64 (n:Nat),.slice ab nb cb,.string text,.slice ak nk ck] 39):=⟨_,rfl⟩
 obtain ⟨gb,hgb⟩:∃ q,q=w.heap.size:=⟨_,rfl⟩
 have hba:Below w.heap.size w wa:=by rw [hwa];exact (Below.refl _ _).alloc (Nat.le_refl _) _
 have hxa:ItBx wa gb k n ab nb cb text ak nk ck:=by rw [hwa,hgb];exact ItBx.new _ _ _ _ _ _ _ _ _ _ _
 have HXa:=Lib.hid hxa
 have HBA:=Lib.hid hba
 have HKS:Hid (RdIs (fun _=>True) wa ak 0 kids):=hks.below hba
 have HYS:Hid (RdB wa ab nb ys):=hbs.1.keep hba
 have HRB:=Lib.hid hrm.2.2
 have HKL:=Lib.hid hkl
 have hyl:ys.length=nb:=hbs.1.1
 have hkw:=len_szMs kids
 have hsz:szM (.mk k n ys text kids)=9+ys.length+text.size+szMs kids:=by simp only [szM]
 obtain ⟨M,hM⟩:∃ M,M=szM (.mk k n ys text kids):=⟨_,rfl⟩
 rw [← hM] at hd hsz
 have hgn:goodM k n nb text.size nk:=by rw [← hyl,← hkl];exact hg
 have CH:=Lib.hid (fun W=>head29_all k n ab nb cb text ak nk ck hgn hok.2.1 (by omega) (by omega) (by omega) W)
 have HKP:Hid (∀ W,Below wa.heap.size wa W→W.cell? ⟨gb,0,none⟩=some (.int .i64 k)∧W.cell? ⟨gb,1,none⟩=some (.int .u64 (n:Nat))∧W.cell? ⟨gb,2,none⟩=some (.slice ab nb cb)∧W.cell? ⟨gb,3,none⟩=some (.string text)∧W.cell? ⟨gb,4,none⟩=some (.slice ak nk ck)):=fun W hW=>⟨cell_below hW hxa.1,cell_below hW hxa.2.1,cell_below hW hxa.2.2.1,cell_below hW hxa.2.2.2.1,cell_below hW hxa.2.2.2.2.1⟩
 have HSR:Hid (∀ W,Below wa.heap.size wa W→SrcB W (.slice ab nb cb) ys):=fun W hW=>⟨ab,nb,cb,rfl,HYS.out.keep hW,HRB.out.1⟩
 have HM:=Lib.hid hM
 have HSZ:=Lib.hid hsz
 have hM9:M≤1000001:=by omega
 have HKW:Hid (szMs kids≤M):=Lib.hid (by omega)
 have HYL:Hid (ys.length+text.size≤M):=Lib.hid (by omega)
 have HG:=Lib.hid hg
 have HKM:=Lib.hid hks9
 have hnk9:nk≤1000001:=by omega
 have hd8:M≤d+1:=hd
 have HD:=Lib.hid hd8
 have HOF:=Lib.hid hof
 clear hba hok hbs hks hrm hyl hkl hkw hsz hM hgn hg hd hd8 hks9 hof hd9
 obtain ⟨f0,f1,f2,f3,f4,l0⟩:=hxa
 go_enter Tryz.func26,Tryz.ntmps26
 go_upto_region 1 with fail
 rw [← hwa,← hgb]
 clear hwa hgb
 go_region_held3 (fun W=>W.cell? ⟨gb,0,none⟩=some (.int .i64 k)∧W.cell? ⟨gb,1,none⟩=some (.int .u64 (n:Nat))∧W.cell? ⟨gb,2,none⟩=some (.slice ab nb cb)∧W.cell? ⟨gb,3,none⟩=some (.string text)∧W.cell? ⟨gb,4,none⟩=some (.slice ak nk ck)) ((with_reducible refine HKP.out _ ?_;(repeat' (first|with_reducible assumption|with_reducible exact HS3.out.bel|with_reducible exact HS2.out.bel|with_reducible exact HS1.out.bel|with_reducible refine Below.drew ?_|with_reducible exact Below.refl _ _))))
  ((first
   | (go_at_call 45;(with_reducible refine (CH.out _).mono ?_);rintro e w1 ⟨hdr,hhp,v1,rfl,hs1⟩;have HHP:=Lib.hid hhp;have hhl:=hhp.1;have HS1:=Lib.hid (hs1.up (w:=wa) (by (repeat' (first|with_reducible refine Below.drew ?_|with_reducible exact Below.refl _ _))));clear hs1 hhp)
   | (refine arm_row (w:=wa) (v:=v1) (bs:=hdr) (u:=.slice ab nb cb) (l:=ys) (by rfl) _ _ (by rfl) (by rfl) (by rfl) ?_ ?_ ?_ ?_;(case _=>(repeat' (first|with_reducible exact HS1.out|with_reducible refine St.drew ?_)));(case _=>(with_reducible refine HSR.out _ ?_;(repeat' (first|with_reducible assumption|with_reducible exact HS3.out.bel|with_reducible exact HS2.out.bel|with_reducible exact HS1.out.bel|with_reducible refine Below.drew ?_|with_reducible exact Below.refl _ _))));(case _=>(have:=HYL.out;omega));intro v2 w2 hs2 hl2;have HS2:=Lib.hid hs2;clear hs2 hl2)
   | (refine arm_txt (w:=wa) (v:=v2) (bs:=hdr++ys) (t:=text) (by rfl) _ _ (by rfl) (by rfl) (by rfl) ?_ ?_ ?_;(case _=>(repeat' (first|with_reducible exact HS2.out|with_reducible refine St.drew ?_)));(case _=>(have:=HYL.out;simp;omega));intro v3 w3 hs3 hl3;have HS3:=Lib.hid hs3;clear hs3 hl3)
   | fail))
 all_goals
  obtain ⟨H,hH⟩:∃ H,H=hdr++ys++sl text:=⟨_,rfl⟩
  have hHl:H.length+szMs kids≤M:=by have h9:=sl_len text;have h8:=HSZ.out;rw [hH];simp only [List.length_append];omega
  have HH:=Lib.hid hH
  have H0:Hid (MRel wa kids H M v3 (.int .i64 (0:Nat)) w3):=Lib.hid ⟨0,v3,[],rfl,rfl,Nat.zero_le _,Lib.hid (by rw [List.append_nil,hH];exact HS3.out),Lib.hid (by rw [List.append_nil,show IL.drop 0 kids=kids from by cases kids<;>rfl];exact hHl),Lib.hid ⟨fun _=>rfl,fun _ h=>absurd h (by omega)⟩⟩
  clear hH hHl
  go_wp2_with fail
  go_loopw [3,4] (fun q i wr=>MRel wa kids H M q i wr) (fun _ i _=>nk - (intOf i).toNat)
  case atStart=>exact H0.out
  case round=>
   obtain ⟨j,vr,r,rfl,rfl,hj,hst0,hM0,hR⟩:=hrel
   rw [HKL.out] at hj
   have hB0:Below wa.heap.size wa wr:=hst0.out.bel
   have HB0:=Lib.hid hB0
   obtain ⟨f0,f1,f2,f3,f4,l0⟩:=HXa.out.keep hB0
   by_cases hlt:j < nk
   ·obtain ⟨x,hx⟩:=IL.get_some kids j (by rw [HKL.out];exact hlt)
    have hwg2:=szMs_get kids j x hx
    have hxo:=HKM.out.get hx
    obtain ⟨b,o,k',n',bs',text',kids',ab',nb',cb',ak',nk',ck',hab,hxe,hblt,hxr,h0,h1,h2,h3,h4⟩:=(HKS.out.at hx).cells
    subst hab
    have CL:=Lib.hid (HOF.out x (by have:=HD.out;have:=HSZ.out;omega) hxo wr _ (hxr.below hB0))
    have y0:wr.cell? ⟨b,o+j * 5,none⟩=some (.int .i64 k'):=cell_below hB0 h0
    have y1:wr.cell? ⟨b,o+j * 5+1,none⟩=some (.int .u64 (n':Nat)):=cell_below hB0 h1
    have y2:wr.cell? ⟨b,o+j * 5+2,none⟩=some (.slice ab' nb' cb'):=cell_below hB0 h2
    have y3:wr.cell? ⟨b,o+j * 5+3,none⟩=some (.string text'):=cell_below hB0 h3
    have y4:wr.cell? ⟨b,o+j * 5+4,none⟩=some (.slice ak' nk' ck'):=cell_below hB0 h4
    have hj0:(0:Int)≤(j:Int):=by omega
    have hj1:(j:Int) < (nk:Int):=by omega
    have HWG:=Lib.hid hwg2
    have HX:=Lib.hid hx
    clear hx hwg2 hxr h0 h1 h2 h3 h4 hxe hB0 hxo
    go_wp2_with fail
    refine CL.out.mono ?_
    rintro e w6 ⟨L,hL,v6,rfl,hs6⟩
    have HSV:Hid (SrcB w6 v6 L):=hs6.1.srcB
    have HS6:Hid (St wa vr (H++r) w6):=hst0.out.keep hs6.2
    have HMM:Hid ((H++(r++L)).length+szMs (kids.drop (j+1))≤M):=Lib.hid (by have h5:=hL.len;have h6:=hM0.out;have h7:=HWG.out;rw [← List.append_assoc,List.length_append];omega)
    have hcl:(H++r).length+L.length≤90000000000:=by have h5:=hL.len;have h6:=hM0.out;have h7:=HWG.out;omega
    have HRR:=Lib.hid (m_next HX.out hL hR.out)
    clear hs6 y0 y1 y2 y3 y4 CL hL
    go_wp2_with (at_builtin;refine wpList_appB (v:=vr) (bs:=H++r) (sv:=v6) (l:=L) (B:=wa.heap.size) (by rfl) _ _ (by rfl) (by rfl) HS6.out.1 (by rfl) HSV.out ?o1 ?o2 ?_)
    case o1=>omega
    case o2=>exact HS6.out.size
    intro v7 w7 ho7 hl7
    have HS7:Hid (St wa v7 (H++(r++L)) w7):=Lib.hid (HS6.out.lay ho7 (LayF.app hl7))
    clear ho7 hl7 hcl
    go_wp2_with fail
    go_roundw
    case rel=>exact ⟨j+1,v7,r++L,by simp,rfl,by rw [HKL.out];omega,HS7,HMM,HRR⟩
    case measure=>simp [intOf];omega
   ·have hjn:j=nk:=by omega
    subst hjn
    have HFIN:Hid (LyP (.mk k n ys text kids) (H++r)):=Lib.hid (by rw [HH.out];exact m_fin HG.out HHP.out (by have h6:=hM0.out;rw [HH.out] at h6;rw [← HM.out];omega) HKL.out hR.out)
    clear hM0 hR
    go_wp2_with fail
    go_ret
    exact ⟨_,HFIN.out,_,rfl,hst0.out.up HBA.out⟩
theorem lay29_all:∀ d,d≤1000001→LayMSaid d
 | 0,_=>fun x h=>by have:=szM_pos x;omega
 | d+1,h=>lay29_step d (by omega) (lay29_all d (by omega))
end Go.Proofs.YtmooaepbdmengaaGreatDoor
