/- Parts of the proof of SniffWritten: MpE. -/
import Derived.Test.YtmooaepbdmengaaGreatDoorZ16
import Derived.Test.YtmooaepbdmengaaGreatDoorZ09
namespace Go.Proofs.YtmooaepbdmengaaGreatDoor
open Go.RowKit
set_option linter.unusedVariables false
set_option linter.unusedSimpArgs false
set_option maxRecDepth 100000 in
set_option maxHeartbeats 4000000 in
theorem own29_1 (n:Nat) (ab:Option Addr) (nb cb:Nat) (text:ByteArray) (ak:Option Addr) (nk ck:Nat) (hnb:nb≤1000000) (hts:text.size≤1000000) (hnk:nk≤1000000) (ht0:text.size=0) (hwh:(wholeTo (sl text) == text.size)=true) (w:World) :
  Calls Tryz.prog 44 #[.agg (itCells 1 n ab 0 cb text ak 0 ck)] w fun e w'=>e=.returned (.int .i64 0)∧Below w.heap.size w w':=by
 have HB:Hid (Below w.heap.size w (w.alloc (.cells #[.int .i64 1,.int .u64 (n:Nat),.slice ab 0 cb,.string text,.slice ak 0 ck] 39))):=Lib.hid ((Below.refl _ _).alloc (Nat.le_refl _) _)
 have CW:=Lib.hid (rwhole_calls text (by omega))
 rw [hwh] at CW
 clear hwh
 have htx:=no_txt text
 rw [ht0] at htx
 have x3:(text.toList == [])=true:=by rw [htx];rfl
 have x3n:(text.toList != [])=false:=by unfold bne;rw [x3];rfl
 have hs0:decide ((4294967296:Int)≤(text.size:Int))=false:=by simp;omega
 clear htx ht0 hts
 clear hnb
 clear hnk
 go_enter Tryz.func44,Tryz.ntmps44
 go_wp2_with fail
 refine (CW.out _).mono ?_
 rintro e w1 ⟨rfl,hb1⟩
 have HB1:Hid (Below w.heap.size w w1):=HB.out.trans (hb1.mono HB.out.size)
 clear hb1 CW
 go_wp2_with fail
 go_ret
 exact ⟨rfl,HB1.out⟩
set_option maxRecDepth 100000 in
set_option maxHeartbeats 4000000 in
theorem own29_2 (n:Nat) (ab:Option Addr) (nb cb:Nat) (text:ByteArray) (ak:Option Addr) (nk ck:Nat) (hn:n < 9223372036854775808) (hnb:nb≤1000000) (hts:text.size≤1000000) (hnk:nk≤1000000) (ht0:text.size=0) (hwh:(wholeTo (sl text) == text.size)=true) (w:World) :
  Calls Tryz.prog 44 #[.agg (itCells 2 n ab 0 cb text ak 0 ck)] w fun e w'=>e=.returned (.int .i64 0)∧Below w.heap.size w w':=by
 have HB:Hid (Below w.heap.size w (w.alloc (.cells #[.int .i64 2,.int .u64 (n:Nat),.slice ab 0 cb,.string text,.slice ak 0 ck] 39))):=Lib.hid ((Below.refl _ _).alloc (Nat.le_refl _) _)
 have CW:=Lib.hid (rwhole_calls text (by omega))
 rw [hwh] at CW
 clear hwh
 have htx:=no_txt text
 rw [ht0] at htx
 have x3:(text.toList == [])=true:=by rw [htx];rfl
 have x3n:(text.toList != [])=false:=by unfold bne;rw [x3];rfl
 have hs0:decide ((4294967296:Int)≤(text.size:Int))=false:=by simp;omega
 clear htx ht0 hts
 clear hnb
 clear hnk
 have hn0:decide ((9223372036854775808:Int)≤(n:Int))=false:=by simp;omega
 clear hn
 go_enter Tryz.func44,Tryz.ntmps44
 go_wp2_with fail
 refine (CW.out _).mono ?_
 rintro e w1 ⟨rfl,hb1⟩
 have HB1:Hid (Below w.heap.size w w1):=HB.out.trans (hb1.mono HB.out.size)
 clear hb1 CW
 go_wp2_with fail
 go_ret
 exact ⟨rfl,HB1.out⟩
set_option maxRecDepth 100000 in
set_option maxHeartbeats 4000000 in
theorem own29_3 (n:Nat) (ab:Option Addr) (nb cb:Nat) (text:ByteArray) (ak:Option Addr) (nk ck:Nat) (hnb:nb≤1000000) (hts:text.size≤1000000) (hnk:nk≤1000000) (ht0:text.size=0) (hwh:(wholeTo (sl text) == text.size)=true) (w:World) :
  Calls Tryz.prog 44 #[.agg (itCells 3 0 ab nb cb text ak 0 ck)] w fun e w'=>e=.returned (.int .i64 0)∧Below w.heap.size w w':=by
 have HB:Hid (Below w.heap.size w (w.alloc (.cells #[.int .i64 3,.int .u64 (0:Nat),.slice ab nb cb,.string text,.slice ak 0 ck] 39))):=Lib.hid ((Below.refl _ _).alloc (Nat.le_refl _) _)
 have CW:=Lib.hid (rwhole_calls text (by omega))
 rw [hwh] at CW
 clear hwh
 have htx:=no_txt text
 rw [ht0] at htx
 have x3:(text.toList == [])=true:=by rw [htx];rfl
 have x3n:(text.toList != [])=false:=by unfold bne;rw [x3];rfl
 have hs0:decide ((4294967296:Int)≤(text.size:Int))=false:=by simp;omega
 clear htx ht0 hts
 have hb0:decide ((4294967296:Int)≤(nb:Int))=false:=by simp;omega
 clear hnb
 clear hnk
 go_enter Tryz.func44,Tryz.ntmps44
 go_wp2_with fail
 refine (CW.out _).mono ?_
 rintro e w1 ⟨rfl,hb1⟩
 have HB1:Hid (Below w.heap.size w w1):=HB.out.trans (hb1.mono HB.out.size)
 clear hb1 CW
 go_wp2_with fail
 go_ret
 exact ⟨rfl,HB1.out⟩
set_option maxRecDepth 100000 in
set_option maxHeartbeats 4000000 in
theorem own29_4 (n:Nat) (ab:Option Addr) (nb cb:Nat) (text:ByteArray) (ak:Option Addr) (nk ck:Nat) (hnb:nb≤1000000) (hts:text.size≤1000000) (hnk:nk≤1000000) (hwh:(wholeTo (sl text) == text.size)=true) (w:World) :
  Calls Tryz.prog 44 #[.agg (itCells 4 0 ab 0 cb text ak 0 ck)] w fun e w'=>e=.returned (.int .i64 0)∧Below w.heap.size w w':=by
 have HB:Hid (Below w.heap.size w (w.alloc (.cells #[.int .i64 4,.int .u64 (0:Nat),.slice ab 0 cb,.string text,.slice ak 0 ck] 39))):=Lib.hid ((Below.refl _ _).alloc (Nat.le_refl _) _)
 have CW:=Lib.hid (rwhole_calls text (by omega))
 rw [hwh] at CW
 clear hwh
 obtain ⟨ts,hts2⟩:∃ q,q=text.size:=⟨_,rfl⟩
 have hts3:text.size=ts:=hts2.symm
 have hs0:decide ((4294967296:Int)≤(ts:Int))=false:=by simp;omega
 clear hts hts2
 clear hnb
 clear hnk
 go_enter Tryz.func44,Tryz.ntmps44
 go_wp2_with fail
 refine (CW.out _).mono ?_
 rintro e w1 ⟨rfl,hb1⟩
 have HB1:Hid (Below w.heap.size w w1):=HB.out.trans (hb1.mono HB.out.size)
 clear hb1 CW
 go_wp2_with fail
 go_ret
 exact ⟨rfl,HB1.out⟩
set_option maxRecDepth 100000 in
set_option maxHeartbeats 4000000 in
theorem own29_5 (n:Nat) (ab:Option Addr) (nb cb:Nat) (text:ByteArray) (ak:Option Addr) (nk ck:Nat) (hnb:nb≤1000000) (hts:text.size≤1000000) (hnk:nk≤1000000) (ht0:text.size=0) (hwh:(wholeTo (sl text) == text.size)=true) (w:World) :
  Calls Tryz.prog 44 #[.agg (itCells 5 0 ab 0 cb text ak nk ck)] w fun e w'=>e=.returned (.int .i64 0)∧Below w.heap.size w w':=by
 have HB:Hid (Below w.heap.size w (w.alloc (.cells #[.int .i64 5,.int .u64 (0:Nat),.slice ab 0 cb,.string text,.slice ak nk ck] 39))):=Lib.hid ((Below.refl _ _).alloc (Nat.le_refl _) _)
 have CW:=Lib.hid (rwhole_calls text (by omega))
 rw [hwh] at CW
 clear hwh
 have htx:=no_txt text
 rw [ht0] at htx
 have x3:(text.toList == [])=true:=by rw [htx];rfl
 have x3n:(text.toList != [])=false:=by unfold bne;rw [x3];rfl
 have hs0:decide ((4294967296:Int)≤(text.size:Int))=false:=by simp;omega
 clear htx ht0 hts
 clear hnb
 obtain ⟨hf,hhf⟩:∃ q,q=nk / 2:=⟨_,rfl⟩
 have w0:(nk:Int).tdiv 2=(hf:Int):=by rw [hhf,Int.tdiv_eq_ediv_of_nonneg (by omega)];omega
 have w9:IntKind.i64.wrap (hf:Int)=(hf:Int):=IntWalk.i64_in _ (by omega)
 have hk0:decide ((4294967296:Int)≤(nk:Int))=false:=by simp;omega
 have hk1:decide ((4294967296:Int)≤(hf:Int))=false:=by simp;omega
 clear hhf
 clear hnk
 go_enter Tryz.func44,Tryz.ntmps44
 go_wp2_with fail
 refine (CW.out _).mono ?_
 rintro e w1 ⟨rfl,hb1⟩
 have HB1:Hid (Below w.heap.size w w1):=HB.out.trans (hb1.mono HB.out.size)
 clear hb1 CW
 go_wp2_with fail
 go_ret
 exact ⟨rfl,HB1.out⟩
set_option maxRecDepth 100000 in
set_option maxHeartbeats 4000000 in
theorem own29_6 (n:Nat) (ab:Option Addr) (nb cb:Nat) (text:ByteArray) (ak:Option Addr) (nk ck:Nat) (hk2:nk % 2=0) (hnb:nb≤1000000) (hts:text.size≤1000000) (hnk:nk≤1000000) (ht0:text.size=0) (hwh:(wholeTo (sl text) == text.size)=true) (w:World) :
  Calls Tryz.prog 44 #[.agg (itCells 6 0 ab 0 cb text ak nk ck)] w fun e w'=>e=.returned (.int .i64 0)∧Below w.heap.size w w':=by
 have HB:Hid (Below w.heap.size w (w.alloc (.cells #[.int .i64 6,.int .u64 (0:Nat),.slice ab 0 cb,.string text,.slice ak nk ck] 39))):=Lib.hid ((Below.refl _ _).alloc (Nat.le_refl _) _)
 have CW:=Lib.hid (rwhole_calls text (by omega))
 rw [hwh] at CW
 clear hwh
 have htx:=no_txt text
 rw [ht0] at htx
 have x3:(text.toList == [])=true:=by rw [htx];rfl
 have x3n:(text.toList != [])=false:=by unfold bne;rw [x3];rfl
 have hs0:decide ((4294967296:Int)≤(text.size:Int))=false:=by simp;omega
 clear htx ht0 hts
 clear hnb
 obtain ⟨hf,hhf⟩:∃ q,q=nk / 2:=⟨_,rfl⟩
 have w0:(nk:Int).tdiv 2=(hf:Int):=by rw [hhf,Int.tdiv_eq_ediv_of_nonneg (by omega)];omega
 have w9:IntKind.i64.wrap (hf:Int)=(hf:Int):=IntWalk.i64_in _ (by omega)
 have hk0:decide ((4294967296:Int)≤(nk:Int))=false:=by simp;omega
 have hk1:decide ((4294967296:Int)≤(hf:Int))=false:=by simp;omega
 have w5:(nk:Int).tmod 2=0:=by rw [Int.tmod_eq_emod_of_nonneg (by omega)];omega
 clear hk2
 clear hhf
 clear hnk
 go_enter Tryz.func44,Tryz.ntmps44
 go_wp2_with fail
 refine (CW.out _).mono ?_
 rintro e w1 ⟨rfl,hb1⟩
 have HB1:Hid (Below w.heap.size w w1):=HB.out.trans (hb1.mono HB.out.size)
 clear hb1 CW
 go_wp2_with fail
 go_ret
 exact ⟨rfl,HB1.out⟩
set_option maxRecDepth 100000 in
set_option maxHeartbeats 4000000 in
theorem own29_8 (n:Nat) (ab:Option Addr) (nb cb:Nat) (text:ByteArray) (ak:Option Addr) (nk ck:Nat) (hn:n=20∨n=21∨n=22) (hnb:nb≤1000000) (hts:text.size≤1000000) (hnk:nk≤1000000) (ht0:text.size=0) (hwh:(wholeTo (sl text) == text.size)=true) (w:World) :
  Calls Tryz.prog 44 #[.agg (itCells 8 n ab 0 cb text ak 0 ck)] w fun e w'=>e=.returned (.int .i64 0)∧Below w.heap.size w w':=by
 have HB:Hid (Below w.heap.size w (w.alloc (.cells #[.int .i64 8,.int .u64 (n:Nat),.slice ab 0 cb,.string text,.slice ak 0 ck] 39))):=Lib.hid ((Below.refl _ _).alloc (Nat.le_refl _) _)
 have CW:=Lib.hid (rwhole_calls text (by omega))
 rw [hwh] at CW
 clear hwh
 have htx:=no_txt text
 rw [ht0] at htx
 have x3:(text.toList == [])=true:=by rw [htx];rfl
 have x3n:(text.toList != [])=false:=by unfold bne;rw [x3];rfl
 have hs0:decide ((4294967296:Int)≤(text.size:Int))=false:=by simp;omega
 clear htx ht0 hts
 clear hnb
 clear hnk
 rcases hn with rfl|rfl|rfl
 all_goals
  go_enter Tryz.func44,Tryz.ntmps44
  go_wp2_with fail
  refine (CW.out _).mono ?_
  rintro e w1 ⟨rfl,hb1⟩
  have HB1:Hid (Below w.heap.size w w1):=HB.out.trans (hb1.mono HB.out.size)
  clear hb1 CW
  go_wp2_with fail
  go_ret
  exact ⟨rfl,HB1.out⟩
set_option maxRecDepth 100000 in
set_option maxHeartbeats 4000000 in
theorem own29_9 (n:Nat) (ab:Option Addr) (nb cb:Nat) (text:ByteArray) (ak:Option Addr) (nk ck:Nat) (hnb:nb≤1000000) (hts:text.size≤1000000) (hnk:nk≤1000000) (ht0:text.size=0) (hwh:(wholeTo (sl text) == text.size)=true) (w:World) :
  Calls Tryz.prog 44 #[.agg (itCells 9 n ab 0 cb text ak 0 ck)] w fun e w'=>e=.returned (.int .i64 0)∧Below w.heap.size w w':=by
 have HB:Hid (Below w.heap.size w (w.alloc (.cells #[.int .i64 9,.int .u64 (n:Nat),.slice ab 0 cb,.string text,.slice ak 0 ck] 39))):=Lib.hid ((Below.refl _ _).alloc (Nat.le_refl _) _)
 have CW:=Lib.hid (rwhole_calls text (by omega))
 rw [hwh] at CW
 clear hwh
 have htx:=no_txt text
 rw [ht0] at htx
 have x3:(text.toList == [])=true:=by rw [htx];rfl
 have x3n:(text.toList != [])=false:=by unfold bne;rw [x3];rfl
 have hs0:decide ((4294967296:Int)≤(text.size:Int))=false:=by simp;omega
 clear htx ht0 hts
 clear hnb
 clear hnk
 go_enter Tryz.func44,Tryz.ntmps44
 go_wp2_with fail
 refine (CW.out _).mono ?_
 rintro e w1 ⟨rfl,hb1⟩
 have HB1:Hid (Below w.heap.size w w1):=HB.out.trans (hb1.mono HB.out.size)
 clear hb1 CW
 go_wp2_with fail
 go_ret
 exact ⟨rfl,HB1.out⟩
set_option maxRecDepth 100000 in
set_option maxHeartbeats 4000000 in
theorem own29_10 (n:Nat) (ab:Option Addr) (nb cb:Nat) (text:ByteArray) (ak:Option Addr) (nk ck:Nat) (hn:n≤127) (hnb:nb≤1000000) (hts:text.size≤1000000) (hnk:nk≤1000000) (ht0:text.size=0) (hwh:(wholeTo (sl text) == text.size)=true) (w:World) :
  Calls Tryz.prog 44 #[.agg (itCells 10 n ab nb cb text ak 0 ck)] w fun e w'=>e=.returned (.int .i64 0)∧Below w.heap.size w w':=by
 have HB:Hid (Below w.heap.size w (w.alloc (.cells #[.int .i64 10,.int .u64 (n:Nat),.slice ab nb cb,.string text,.slice ak 0 ck] 39))):=Lib.hid ((Below.refl _ _).alloc (Nat.le_refl _) _)
 have CW:=Lib.hid (rwhole_calls text (by omega))
 rw [hwh] at CW
 clear hwh
 have htx:=no_txt text
 rw [ht0] at htx
 have x3:(text.toList == [])=true:=by rw [htx];rfl
 have x3n:(text.toList != [])=false:=by unfold bne;rw [x3];rfl
 have hs0:decide ((4294967296:Int)≤(text.size:Int))=false:=by simp;omega
 clear htx ht0 hts
 have hb0:decide ((4294967296:Int)≤(nb:Int))=false:=by simp;omega
 clear hnb
 clear hnk
 have hn0:decide ((127:Int) < (n:Int))=false:=by simp;omega
 clear hn
 go_enter Tryz.func44,Tryz.ntmps44
 go_wp2_with fail
 refine (CW.out _).mono ?_
 rintro e w1 ⟨rfl,hb1⟩
 have HB1:Hid (Below w.heap.size w w1):=HB.out.trans (hb1.mono HB.out.size)
 clear hb1 CW
 go_wp2_with fail
 go_ret
 exact ⟨rfl,HB1.out⟩
theorem own29_all (k:Int) (n:Nat) (ab:Option Addr) (nb cb:Nat) (text:ByteArray) (ak:Option Addr) (nk ck:Nat) (hg:goodM k n nb text.size nk) (h1:nb≤1000000) (h2:text.size≤1000000) (h3:nk≤1000000) (hw:(wholeTo (sl text) == text.size)=true) (w:World) :
  Calls Tryz.prog 44 #[.agg (itCells k n ab nb cb text ak nk ck)] w fun e w'=>e=.returned (.int .i64 0)∧Below w.heap.size w w':=by
 rcases hg with ⟨rfl,rfl,h,rfl⟩|⟨rfl,hn,rfl,h,rfl⟩|⟨rfl,rfl,h,rfl⟩|⟨rfl,rfl,rfl,rfl⟩|⟨rfl,rfl,rfl,h⟩|⟨rfl,rfl,rfl,h,hk⟩|⟨rfl,hn,rfl,h,rfl⟩|⟨rfl,rfl,h,rfl⟩|⟨rfl,hn,h,rfl⟩
 ·exact own29_1 n ab 0 cb text ak 0 ck h1 h2 h3 h hw w
 ·exact own29_2 n ab 0 cb text ak 0 ck hn h1 h2 h3 h hw w
 ·exact own29_3 0 ab nb cb text ak 0 ck h1 h2 h3 h hw w
 ·exact own29_4 0 ab 0 cb text ak 0 ck h1 h2 h3 hw w
 ·exact own29_5 0 ab 0 cb text ak nk ck h1 h2 h3 h hw w
 ·exact own29_6 0 ab 0 cb text ak nk ck hk h1 h2 h3 h hw w
 ·exact own29_8 n ab 0 cb text ak 0 ck hn h1 h2 h3 h hw w
 ·exact own29_9 n ab 0 cb text ak 0 ck h1 h2 h3 h hw w
 ·exact own29_10 n ab nb cb text ak 0 ck hn h1 h2 h3 h hw w
def ChkMSaid (d:Nat):Prop:=∀ x:I,szM x≤d→OkM x→∀ (w:World) (c:Array Value),RdIt (fun _=>True) w x c→Calls Tryz.prog 25 #[.agg c] w fun e w'=>e=.returned (.int .i64 0)∧Below w.heap.size w w'
set_option maxRecDepth 100000 in
set_option maxHeartbeats 8000000 in
theorem chk29_step (d:Nat) (hd9:d≤1000000) (hof:ChkMSaid d):ChkMSaid (d+1):=by
 intro x hd hokm w c hr
 obtain ⟨k,n,ys,text,kids⟩:=x
 obtain ⟨hg,hwh,hks9⟩:=hokm
 obtain ⟨ab,nb,cb,ak,nk,ck,rfl,hok,hbs,hkl,hrm,hks⟩:=hr
 obtain ⟨wa,hwa⟩:∃ W,W=w.alloc (.cells #[.int .i64 k,.int .u64 (n:Nat),.slice ab nb cb,.string text,.slice ak nk ck] 39):=⟨_,rfl⟩
 obtain ⟨gb,hgb⟩:∃ q,q=w.heap.size:=⟨_,rfl⟩
 have hba:Below w.heap.size w wa:=by rw [hwa];exact (Below.refl _ _).alloc (Nat.le_refl _) _
 have hxa:ItBx wa gb k n ab nb cb text ak nk ck:=by rw [hwa,hgb];exact ItBx.new _ _ _ _ _ _ _ _ _ _ _
 have HXa:=Lib.hid hxa
 have HBA:=Lib.hid hba
 have HKS:Hid (RdIs (fun _=>True) wa ak 0 kids):=hks.below hba
 have HKL:=Lib.hid hkl
 have hyl:ys.length=nb:=hbs.1.1
 have hkw:=len_szMs kids
 have hsz:szM (.mk k n ys text kids)=9+ys.length+text.size+szMs kids:=by simp only [szM]
 rw [hsz] at hd
 have hgn:goodM k n nb text.size nk:=by rw [← hyl,← hkl];exact hg
 have CO:=Lib.hid (fun W=>own29_all k n ab nb cb text ak nk ck hgn (by omega) (by omega) (by omega) hwh W)
 have hdk:szMs kids≤d:=by omega
 have HKM:=Lib.hid hks9
 have HOF:=Lib.hid hof
 have HDK:=Lib.hid hdk
 have hnk9:nk≤1000001:=by omega
 clear hba hok hbs hks hrm hyl hkl hkw hsz hgn hg hd hdk hks9 hof hd9 hwh
 obtain ⟨f0,f1,f2,f3,f4,l0⟩:=hxa
 go_enter Tryz.func25,Tryz.ntmps25
 go_upto_region 1 with fail
 rw [← hwa,← hgb]
 clear hwa hgb
 go_wp2_with fail
 refine (CO.out _).mono ?_
 rintro e w1 ⟨rfl,hb1⟩
 have HB1:=Lib.hid hb1
 clear hb1 CO f0 f1 f2 f3 f4 l0
 go_wp2_with fail
 go_loopw [3,4] (fun q i wr=>∃ j:Nat,j≤nk∧i=.int .i64 j∧q=.int .i64 0∧Below wa.heap.size wa wr) (fun _ i _=>nk - (intOf i).toNat)
 case atStart=>exact ⟨0,by omega,rfl,rfl,HB1.out⟩
 case round=>
  obtain ⟨j,hj,rfl,rfl,hbl⟩:=hrel
  have HBL:=Lib.hid hbl
  obtain ⟨f0,f1,f2,f3,f4,l0⟩:=HXa.out.keep hbl
  by_cases hlt:j < nk
  ·obtain ⟨x,hx⟩:=IL.get_some kids j (by rw [HKL.out];exact hlt)
   have hwg2:=szMs_get kids j x hx
   have hxo:=HKM.out.get hx
   obtain ⟨b,o,k',n',bs',text',kids',ab',nb',cb',ak',nk',ck',hab,hxe,hblt,hxr,h0,h1,h2,h3,h4⟩:=(HKS.out.at hx).cells
   subst hab
   have CL:=Lib.hid (HOF.out x (by have:=HDK.out;omega) hxo wr _ (hxr.below hbl))
   have y0:wr.cell? ⟨b,o+j * 5,none⟩=some (.int .i64 k'):=cell_below hbl h0
   have y1:wr.cell? ⟨b,o+j * 5+1,none⟩=some (.int .u64 (n':Nat)):=cell_below hbl h1
   have y2:wr.cell? ⟨b,o+j * 5+2,none⟩=some (.slice ab' nb' cb'):=cell_below hbl h2
   have y3:wr.cell? ⟨b,o+j * 5+3,none⟩=some (.string text'):=cell_below hbl h3
   have y4:wr.cell? ⟨b,o+j * 5+4,none⟩=some (.slice ak' nk' ck'):=cell_below hbl h4
   have hj0:(0:Int)≤(j:Int):=by omega
   have hj1:(j:Int) < (nk:Int):=by omega
   clear hx hwg2 hxr h0 h1 h2 h3 h4 hxe hxo hbl
   go_wp2_with fail
   refine CL.out.mono ?_
   rintro e w6 ⟨rfl,hb6⟩
   have HB6:=Lib.hid (HBL.out.trans (hb6.mono HBL.out.size))
   clear hb6 CL y0 y1 y2 y3 y4 f0 f1 f2 f3 f4 l0
   go_wp2_with fail
   go_roundw
   case rel=>exact ⟨j+1,by omega,by simp,rfl,HB6.out⟩
   case measure=>simp [intOf];omega
  ·clear hbl
   go_wp2_with fail
   go_ret
   exact ⟨rfl,HBA.out.trans (HBL.out.mono HBA.out.size)⟩
theorem chk29_all:∀ d,d≤1000001→ChkMSaid d
 | 0,_=>fun x h=>by have:=szM_pos x;omega
 | d+1,h=>chk29_step d (by omega) (chk29_all d (by omega))
end Go.Proofs.YtmooaepbdmengaaGreatDoor
