/- Parts of the proof of SniffWritten: JvD, JvE, JvF. -/
import Derived.Test.YtmooaepbdmengaaGreatDoorZ33
import Derived.Test.YtmooaepbdmengaaGreatDoorZ03
import Derived.Test.YtmooaepbdmengaaGreatDoorZ09
import Derived.Test.YtmooaepbdmengaaGreatDoorZ26
import Derived.Test.YtmooaepbdmengaaGreatDoorZ27
import Derived.Deep.RegionHeld3
import Derived.Deep.CutRange
import Derived.BigQuiet
namespace Go.Proofs.YtmooaepbdmengaaGreatDoor
open Go.RowKit
set_option linter.unusedVariables false
set_option linter.unusedSimpArgs false
set_option maxRecDepth 100000 in
set_option maxHeartbeats 4000000 in
theorem value_2 (t:T) (ez:Bool) (w:World) (bits hi lo:Nat) (text more:ByteArray) (sub:Int) (ab:Option Addr) (nb cb:Nat) (ak:Option Addr) (nk ck:Nat) (hw:text.size+2≤t.wt) (ht:Wh text):Calls Tryz.prog 55 #[.agg (valCells 2 bits hi lo text more sub ab nb cb ak nk ck),.bool ez] w (JO (fun _=>False) (80 * t.wt) w):=by
 obtain ⟨wa,hwa⟩:∃ W,W=((w.alloc (.cells (valCells 2 bits hi lo text more sub ab nb cb ak nk ck) 26)).alloc (.cells (jCells 0 ⟨#[]⟩ none 0 0) 53)):=⟨_,rfl⟩
 have HBA:Hid (Below w.heap.size w wa):=Lib.hid (by rw [hwa];exact ((Below.refl _ _).alloc (Nat.le_refl _) _).alloc (by simp) _)
 have HXA:Hid (BoxJ3 wa (w.heap.size+1) z3j):=Lib.hid (by rw [hwa];exact BoxJ3.newG _ _ _ _ (by simp))
 have HBV:Hid (BoxV wa w.heap.size (valCells 2 bits hi lo text more sub ab nb cb ak nk ck)):=Lib.hid (by rw [hwa];exact (BoxV.new w _ _).keep ((Below.refl _ _).alloc (Nat.le_refl _) _))
 have hz2:w.heap.size+2≤wa.heap.size:=HXA.out.1
 have HT:=Lib.hid ht
 have HV:=Lib.hid hw
 clear ht hw
 obtain ⟨f0,f1,f2,f3,f4,f5,f6,f7,f8,l0⟩:=HBV.out.nine
 go_enter Tryz.func55,Tryz.ntmps55
 go_upto_region 7 with fail
 rw [← hwa]
 clear hwa
 go_wp2_with fail
 refine (str25_calls text _).mono ?_
 rintro e w1 ⟨rfl,hb⟩
 have HBw1:=Lib.hid hb
 have hj:=jv_str (fun k=>False∨w.heap.size+1+1≤k) w1 text HT.out
 have HJ:=Lib.hid (hj.imp (B':=80 * t.wt) (fun _ _ h=>h) (by have:=HV.out;omega))
 clear f0 f1 f2 f3 f4 f5 f6 f7 f8 l0
 clear hb
 obtain ⟨c0,c1,c2,r0,r1,r2,l1⟩:=(HXA.out.keep HBw1.out).three
 have HBW:=Lib.hid (HBA.out.trans (HBw1.out.mono HBA.out.size))
 go_wp2_with fail
 refine bodyPost_ret (v:=.agg (jCells 5 text none 0 0)) (by simp [results,Tryz.results55,go_sem, *]) rfl ?_
 refine jo_fin (g:=w.heap.size+1) (S:=fun _=>False) (fun _ h=>h.elim) (by omega) HJ.out (Nat.le_refl _) HBW.out ?_
 iterate 3 (refine Chg.set2 ?_ (by exact rfl) _ _)
 exact Chg.refl _ _
set_option maxRecDepth 100000 in
set_option maxHeartbeats 4000000 in
theorem value_13 (t:T) (ez:Bool) (w:World) (bits hi lo:Nat) (text more:ByteArray) (sub:Int) (ab:Option Addr) (nb cb:Nat) (ak:Option Addr) (nk ck:Nat) (hw:text.size+2≤t.wt) (ht:Wh text):Calls Tryz.prog 55 #[.agg (valCells 13 bits hi lo text more sub ab nb cb ak nk ck),.bool ez] w (JO (fun _=>False) (80 * t.wt) w):=by
 obtain ⟨wa,hwa⟩:∃ W,W=((w.alloc (.cells (valCells 13 bits hi lo text more sub ab nb cb ak nk ck) 26)).alloc (.cells (jCells 0 ⟨#[]⟩ none 0 0) 53)):=⟨_,rfl⟩
 have HBA:Hid (Below w.heap.size w wa):=Lib.hid (by rw [hwa];exact ((Below.refl _ _).alloc (Nat.le_refl _) _).alloc (by simp) _)
 have HXA:Hid (BoxJ3 wa (w.heap.size+1) z3j):=Lib.hid (by rw [hwa];exact BoxJ3.newG _ _ _ _ (by simp))
 have HBV:Hid (BoxV wa w.heap.size (valCells 13 bits hi lo text more sub ab nb cb ak nk ck)):=Lib.hid (by rw [hwa];exact (BoxV.new w _ _).keep ((Below.refl _ _).alloc (Nat.le_refl _) _))
 have hz2:w.heap.size+2≤wa.heap.size:=HXA.out.1
 have HT:=Lib.hid ht
 have HV:=Lib.hid hw
 clear ht hw
 obtain ⟨f0,f1,f2,f3,f4,f5,f6,f7,f8,l0⟩:=HBV.out.nine
 go_enter Tryz.func55,Tryz.ntmps55
 go_upto_region 30 with fail
 rw [← hwa]
 clear hwa
 go_wp2_with fail
 refine (str25_calls text _).mono ?_
 rintro e w1 ⟨rfl,hb⟩
 have HBw1:=Lib.hid hb
 clear f0 f1 f2 f3 f4 f5 f6 f7 f8 l0
 clear hb
 go_wp2_with fail
 refine (one25N (N:=5) (WhN.lit rfl (by decide) (by omega)) (jv_str (fun _=>False) _ text HT.out)).mono ?_
 rintro e w2 ⟨v2,rfl,hj,hb⟩
 have HBw2:=Lib.hid (HBw1.out.trans (hb.mono HBw1.out.size))
 have HJ:Hid (JV (fun k=>False∨w.heap.size+1+1≤k) (80 * t.wt) w2 v2):=Lib.hid (hj.imp (fun i _ h=>h.elim (fun h=>h.elim) (fun h=>.inr (by have h1:=HBw1.out.size;omega))) (by have:=HV.out;omega))
 clear hb
 have hj:=HJ.out
 obtain ⟨k9,x9,a9,n9,c9,j9,rfl,-⟩:=hj
 obtain ⟨c0,c1,c2,r0,r1,r2,l1⟩:=(HXA.out.keep HBw2.out).three
 have HBW:=Lib.hid (HBA.out.trans (HBw2.out.mono HBA.out.size))
 go_wp2_with fail
 refine bodyPost_ret (v:=.agg (jCells k9 x9 a9 n9 c9)) (by simp [results,Tryz.results55,go_sem, *]) rfl ?_
 refine jo_fin (g:=w.heap.size+1) (S:=fun _=>False) (fun _ h=>h.elim) (by omega) HJ.out (Nat.le_refl _) HBW.out ?_
 iterate 3 (refine Chg.set2 ?_ (by exact rfl) _ _)
 exact Chg.refl _ _
set_option maxRecDepth 100000 in
set_option maxHeartbeats 4000000 in
theorem value_14 (t:T) (ez:Bool) (w:World) (bits hi lo:Nat) (text more:ByteArray) (sub:Int) (ab:Option Addr) (nb cb:Nat) (ak:Option Addr) (nk ck:Nat) (hw:text.size+2≤t.wt) (ht:Wh text):Calls Tryz.prog 55 #[.agg (valCells 14 bits hi lo text more sub ab nb cb ak nk ck),.bool ez] w (JO (fun _=>False) (80 * t.wt) w):=by
 obtain ⟨wa,hwa⟩:∃ W,W=((w.alloc (.cells (valCells 14 bits hi lo text more sub ab nb cb ak nk ck) 26)).alloc (.cells (jCells 0 ⟨#[]⟩ none 0 0) 53)):=⟨_,rfl⟩
 have HBA:Hid (Below w.heap.size w wa):=Lib.hid (by rw [hwa];exact ((Below.refl _ _).alloc (Nat.le_refl _) _).alloc (by simp) _)
 have HXA:Hid (BoxJ3 wa (w.heap.size+1) z3j):=Lib.hid (by rw [hwa];exact BoxJ3.newG _ _ _ _ (by simp))
 have HBV:Hid (BoxV wa w.heap.size (valCells 14 bits hi lo text more sub ab nb cb ak nk ck)):=Lib.hid (by rw [hwa];exact (BoxV.new w _ _).keep ((Below.refl _ _).alloc (Nat.le_refl _) _))
 have hz2:w.heap.size+2≤wa.heap.size:=HXA.out.1
 have HT:=Lib.hid ht
 have HV:=Lib.hid hw
 clear ht hw
 obtain ⟨f0,f1,f2,f3,f4,f5,f6,f7,f8,l0⟩:=HBV.out.nine
 go_enter Tryz.func55,Tryz.ntmps55
 go_upto_region 32 with fail
 rw [← hwa]
 clear hwa
 go_wp2_with fail
 refine (str25_calls text _).mono ?_
 rintro e w1 ⟨rfl,hb⟩
 have HBw1:=Lib.hid hb
 clear f0 f1 f2 f3 f4 f5 f6 f7 f8 l0
 clear hb
 go_wp2_with fail
 refine (one25N (N:=7) (WhN.lit rfl (by decide) (by omega)) (jv_str (fun _=>False) _ text HT.out)).mono ?_
 rintro e w2 ⟨v2,rfl,hj,hb⟩
 have HBw2:=Lib.hid (HBw1.out.trans (hb.mono HBw1.out.size))
 have HJ:Hid (JV (fun k=>False∨w.heap.size+1+1≤k) (80 * t.wt) w2 v2):=Lib.hid (hj.imp (fun i _ h=>h.elim (fun h=>h.elim) (fun h=>.inr (by have h1:=HBw1.out.size;omega))) (by have:=HV.out;omega))
 clear hb
 have hj:=HJ.out
 obtain ⟨k9,x9,a9,n9,c9,j9,rfl,-⟩:=hj
 obtain ⟨c0,c1,c2,r0,r1,r2,l1⟩:=(HXA.out.keep HBw2.out).three
 have HBW:=Lib.hid (HBA.out.trans (HBw2.out.mono HBA.out.size))
 go_wp2_with fail
 refine bodyPost_ret (v:=.agg (jCells k9 x9 a9 n9 c9)) (by simp [results,Tryz.results55,go_sem, *]) rfl ?_
 refine jo_fin (g:=w.heap.size+1) (S:=fun _=>False) (fun _ h=>h.elim) (by omega) HJ.out (Nat.le_refl _) HBW.out ?_
 iterate 3 (refine Chg.set2 ?_ (by exact rfl) _ _)
 exact Chg.refl _ _
set_option maxRecDepth 100000 in
set_option maxHeartbeats 4000000 in
theorem value_7 (t:T) (ez:Bool) (w:World) (bits hi lo:Nat) (text more:ByteArray) (sub:Int) (ab:Option Addr) (nb cb:Nat) (ak:Option Addr) (nk ck:Nat) (bs:List UInt8) (hbs:RdB w ab nb bs) (hw:bs.length+2≤t.wt) (h9:t.wt≤40000):Calls Tryz.prog 55 #[.agg (valCells 7 bits hi lo text more sub ab nb cb ak nk ck),.bool ez] w (JO (fun _=>False) (80 * t.wt) w):=by
 obtain ⟨wa,hwa⟩:∃ W,W=((w.alloc (.cells (valCells 7 bits hi lo text more sub ab nb cb ak nk ck) 26)).alloc (.cells (jCells 0 ⟨#[]⟩ none 0 0) 53)):=⟨_,rfl⟩
 have HBA:Hid (Below w.heap.size w wa):=Lib.hid (by rw [hwa];exact ((Below.refl _ _).alloc (Nat.le_refl _) _).alloc (by simp) _)
 have HXA:Hid (BoxJ3 wa (w.heap.size+1) z3j):=Lib.hid (by rw [hwa];exact BoxJ3.newG _ _ _ _ (by simp))
 have HBV:Hid (BoxV wa w.heap.size (valCells 7 bits hi lo text more sub ab nb cb ak nk ck)):=Lib.hid (by rw [hwa];exact (BoxV.new w _ _).keep ((Below.refl _ _).alloc (Nat.le_refl _) _))
 have hz2:w.heap.size+2≤wa.heap.size:=HXA.out.1
 have HR:=Lib.hid (hbs.keep HBA.out)
 have HV:=Lib.hid hw
 have hnb:bs.length=nb:=hbs.1
 have HN:Hid (nb+2≤t.wt∧nb≤100000):=Lib.hid (by omega)
 clear hbs hw h9 hnb
 obtain ⟨f0,f1,f2,f3,f4,f5,f6,f7,f8,l0⟩:=HBV.out.nine
 go_enter Tryz.func55,Tryz.ntmps55
 go_upto_region 24 with fail
 rw [← hwa]
 clear hwa
 go_wp2_with fail
 refine (hexT_calls ab nb cb bs _ HR.out HN.out.2).mono ?_
 rintro e w1 ⟨⟨s,rfl,hs⟩,hb⟩
 have HBw1:=Lib.hid hb
 have HS:=Lib.hid hs
 clear hs
 clear f0 f1 f2 f3 f4 f5 f6 f7 f8 l0
 clear hb
 go_wp2_with fail
 refine (str25_calls s _).mono ?_
 rintro e w2 ⟨rfl,hb⟩
 have HBw2:=Lib.hid (HBw1.out.trans (hb.mono HBw1.out.size))
 clear hb
 go_wp2_with fail
 refine (one25N (N:=4) (WhN.lit rfl (by decide) (by omega)) (jv_str (fun _=>False) _ s (HS.out.wh (by have:=HN.out.2;omega)))).mono ?_
 rintro e w3 ⟨v3,rfl,hj,hb⟩
 have HBw3:=Lib.hid (HBw2.out.trans (hb.mono HBw2.out.size))
 have HJ:Hid (JV (fun k=>False∨w.heap.size+1+1≤k) (80 * t.wt) w3 v3):=Lib.hid (hj.imp (fun i _ h=>h.elim (fun h=>h.elim) (fun h=>.inr (by have h1:=HBw2.out.size;omega))) (by have:=HS.out.2;have:=HN.out.1;omega))
 clear hb
 have hj:=HJ.out
 obtain ⟨k9,x9,a9,n9,c9,j9,rfl,-⟩:=hj
 obtain ⟨c0,c1,c2,r0,r1,r2,l1⟩:=(HXA.out.keep HBw3.out).three
 have HBW:=Lib.hid (HBA.out.trans (HBw3.out.mono HBA.out.size))
 go_wp2_with fail
 refine bodyPost_ret (v:=.agg (jCells k9 x9 a9 n9 c9)) (by simp [results,Tryz.results55,go_sem, *]) rfl ?_
 refine jo_fin (g:=w.heap.size+1) (S:=fun _=>False) (fun _ h=>h.elim) (by omega) HJ.out (Nat.le_refl _) HBW.out ?_
 iterate 3 (refine Chg.set2 ?_ (by exact rfl) _ _)
 exact Chg.refl _ _
set_option maxRecDepth 100000 in
set_option maxHeartbeats 4000000 in
theorem value_1 (t:T) (ez:Bool) (w:World) (bits hi lo:Nat) (text more:ByteArray) (sub:Int) (ab:Option Addr) (nb cb:Nat) (ak:Option Addr) (nk ck:Nat) (h2:2≤t.wt) (hb9:bits < 18446744073709551616):Calls Tryz.prog 55 #[.agg (valCells 1 bits hi lo text more sub ab nb cb ak nk ck),.bool ez] w (JO (fun _=>False) (80 * t.wt) w):=by
 obtain ⟨wa,hwa⟩:∃ W,W=((w.alloc (.cells (valCells 1 bits hi lo text more sub ab nb cb ak nk ck) 26)).alloc (.cells (jCells 0 ⟨#[]⟩ none 0 0) 53)):=⟨_,rfl⟩
 have HBA:Hid (Below w.heap.size w wa):=Lib.hid (by rw [hwa];exact ((Below.refl _ _).alloc (Nat.le_refl _) _).alloc (by simp) _)
 have HXA:Hid (BoxJ3 wa (w.heap.size+1) z3j):=Lib.hid (by rw [hwa];exact BoxJ3.newG _ _ _ _ (by simp))
 have HBV:Hid (BoxV wa w.heap.size (valCells 1 bits hi lo text more sub ab nb cb ak nk ck)):=Lib.hid (by rw [hwa];exact (BoxV.new w _ _).keep ((Below.refl _ _).alloc (Nat.le_refl _) _))
 have hz2:w.heap.size+2≤wa.heap.size:=HXA.out.1
 have HV:=Lib.hid h2
 have CD:=Lib.hid (fun W=>double25_calls bits hb9 W)
 have CB:=Lib.hid (fun W=>bare25_calls bits hb9 W)
 have CT:=Lib.hid (fun W=>short_calls bits hb9 W)
 generalize splK bits=S at CB CT
 obtain ⟨kk,ng,mm,ee⟩:=S
 clear h2 hb9
 obtain ⟨f0,f1,f2,f3,f4,f5,f6,f7,f8,l0⟩:=HBV.out.nine
 cases ez with
 | false=>
  go_enter Tryz.func55,Tryz.ntmps55
  go_upto_region 3 with fail
  rw [← hwa]
  clear hwa
  go_wp2_with fail
  refine (CD.out _).mono ?_
  rintro e w2 ⟨v2,rfl,hj,hb⟩
  have HBw2:=Lib.hid hb
  have HJ:Hid (JV (fun k=>False∨w.heap.size+1+1≤k) (80 * t.wt) w2 v2):=Lib.hid (hj.imp (fun i _ h=>h.elim (fun h=>h.elim) (fun h=>.inr (by omega))) (by have:=HV.out;omega))
  clear f0 f1 f2 f3 f4 f5 f6 f7 f8 l0
  clear hb
  have hj:=HJ.out
  obtain ⟨k9,x9,a9,n9,c9,j9,rfl,-⟩:=hj
  obtain ⟨c0,c1,c2,r0,r1,r2,l1⟩:=(HXA.out.keep HBw2.out).three
  have HBW:=Lib.hid (HBA.out.trans (HBw2.out.mono HBA.out.size))
  go_wp2_with fail
  refine bodyPost_ret (v:=.agg (jCells k9 x9 a9 n9 c9)) (by simp [results,Tryz.results55,go_sem, *]) rfl ?_
  refine jo_fin (g:=w.heap.size+1) (S:=fun _=>False) (fun _ h=>h.elim) (by omega) HJ.out (Nat.le_refl _) HBW.out ?_
  iterate 3 (refine Chg.set2 ?_ (by exact rfl) _ _)
  exact Chg.refl _ _
 | true=>
  go_enter Tryz.func55,Tryz.ntmps55
  go_upto_region 3 with fail
  rw [← hwa]
  clear hwa
  go_wp2_with fail
  refine (CB.out _).mono ?_
  rintro e w1 ⟨⟨tb,rfl,htb⟩,hb⟩
  have HBw1:=Lib.hid hb
  have HBV1:=Lib.hid (HBV.out.keep hb)
  have HTB:=Lib.hid htb
  clear hb htb f0 f1 f2 f3 f4 f5 f6 f7 f8 l0
  obtain ⟨f0,f1,f2,f3,f4,f5,f6,f7,f8,l0⟩:=HBV1.out.nine
  cases tb with
  | false=>
   go_wp2_with fail
   refine (CD.out _).mono ?_
   rintro e w2 ⟨v2,rfl,hj,hb⟩
   have HBw2:=Lib.hid (HBw1.out.trans (hb.mono HBw1.out.size))
   have HJ:Hid (JV (fun k=>False∨w.heap.size+1+1≤k) (80 * t.wt) w2 v2):=Lib.hid (hj.imp (fun i _ h=>h.elim (fun h=>h.elim) (fun h=>.inr (by have h1:=HBw1.out.size;omega))) (by have:=HV.out;omega))
   clear hb hj f0 f1 f2 f3 f4 f5 f6 f7 f8 l0
   have hj:=HJ.out
   obtain ⟨k9,x9,a9,n9,c9,j9,rfl,-⟩:=hj
   obtain ⟨c0,c1,c2,r0,r1,r2,l1⟩:=(HXA.out.keep HBw2.out).three
   have HBW:=Lib.hid (HBA.out.trans (HBw2.out.mono HBA.out.size))
   go_wp2_with fail
   refine bodyPost_ret (v:=.agg (jCells k9 x9 a9 n9 c9)) (by simp [results,Tryz.results55,go_sem, *]) rfl ?_
   refine jo_fin (g:=w.heap.size+1) (S:=fun _=>False) (fun _ h=>h.elim) (by omega) HJ.out (Nat.le_refl _) HBW.out ?_
   iterate 3 (refine Chg.set2 ?_ (by exact rfl) _ _)
   exact Chg.refl _ _
  | true=>
   go_wp2_with fail
   refine (CT.out _).mono ?_
   rintro e w2 ⟨⟨s,rfl,hs⟩,hb⟩
   have HBw2:=Lib.hid (HBw1.out.trans (hb.mono HBw1.out.size))
   have HS:=Lib.hid hs
   have HLX:Hid (lexeme (sl s)≠0):=Lib.hid (by
    rcases HTB.out (by simp) with h|⟨h1,h2⟩
    ·exact (hs.2.2.1 h).lex
    ·rw [hs.2.2.2 h1 h2];decide)
   clear hb hs f0 f1 f2 f3 f4 f5 f6 f7 f8 l0
   go_wp2_with fail
   refine (num25_calls s _).mono ?_
   rintro e w3 ⟨rfl,hb⟩
   have HBw3:=Lib.hid (HBw2.out.trans (hb.mono HBw2.out.size))
   have hj:=jv_num (fun k=>False∨w.heap.size+1+1≤k) w3 s HLX.out (by have:=HS.out.2.1;omega)
   have HJ:=Lib.hid (hj.imp (B':=80 * t.wt) (fun _ _ h=>h) (by have:=HV.out;have:=HS.out.2.1;omega))
   clear hb
   obtain ⟨c0,c1,c2,r0,r1,r2,l1⟩:=(HXA.out.keep HBw3.out).three
   have HBW:=Lib.hid (HBA.out.trans (HBw3.out.mono HBA.out.size))
   go_wp2_with fail
   refine bodyPost_ret (v:=.agg (jCells 4 s none 0 0)) (by simp [results,Tryz.results55,go_sem, *]) rfl ?_
   refine jo_fin (g:=w.heap.size+1) (S:=fun _=>False) (fun _ h=>h.elim) (by omega) HJ.out (Nat.le_refl _) HBW.out ?_
   iterate 3 (refine Chg.set2 ?_ (by exact rfl) _ _)
   exact Chg.refl _ _
set_option maxRecDepth 100000 in
set_option maxHeartbeats 4000000 in
theorem value_3 (t:T) (ez:Bool) (w:World) (bits hi lo:Nat) (text more:ByteArray) (sub:Int) (ab:Option Addr) (nb cb:Nat) (ak:Option Addr) (nk ck:Nat) (f:F) (hk:RdKs w ak 0 f) (hl:f.len=nk) (hm:∀ W,Below w.heap.size w W→Calls Tryz.prog 33 #[.slice ak nk ck,.bool ez] W (JO (fun _=>False) (2+80 * f.wt) W)) (hw:f.wt+2≤t.wt):Calls Tryz.prog 55 #[.agg (valCells 3 bits hi lo text more sub ab nb cb ak nk ck),.bool ez] w (JO (fun _=>False) (80 * t.wt) w):=by
 obtain ⟨wa,hwa⟩:∃ W,W=((w.alloc (.cells (valCells 3 bits hi lo text more sub ab nb cb ak nk ck) 26)).alloc (.cells (jCells 0 ⟨#[]⟩ none 0 0) 53)):=⟨_,rfl⟩
 have HBA:Hid (Below w.heap.size w wa):=Lib.hid (by rw [hwa];exact ((Below.refl _ _).alloc (Nat.le_refl _) _).alloc (by simp) _)
 have HXA:Hid (BoxJ3 wa (w.heap.size+1) z3j):=Lib.hid (by rw [hwa];exact BoxJ3.newG _ _ _ _ (by simp))
 have HBV:Hid (BoxV wa w.heap.size (valCells 3 bits hi lo text more sub ab nb cb ak nk ck)):=Lib.hid (by rw [hwa];exact (BoxV.new w _ _).keep ((Below.refl _ _).alloc (Nat.le_refl _) _))
 have hz2:w.heap.size+2≤wa.heap.size:=HXA.out.1
 have HV:=Lib.hid hw
 have HM:=Lib.hid (fun W (h:Below wa.heap.size wa W)=>hm W (HBA.out.trans (h.mono HBA.out.size)))
 have HK:=Lib.hid (hk.keep HBA.out)
 have HL:=Lib.hid hl
 clear hw hm hk hl
 obtain ⟨f0,f1,f2,f3,f4,f5,f6,f7,f8,l0⟩:=HBV.out.nine
 go_enter Tryz.func55,Tryz.ntmps55
 go_upto_region 9 with fail
 rw [← hwa]
 clear hwa
 go_cut [51] from 31 to 51 (fun p W=>(∃ b:Bool,p=.bool b)∧W=wa)
 case first=>
  cases f with
  | nil=>
   have hn0:nk=0:=HL.out.symm
   subst hn0
   go_wp2_with fail
   go_meet
   case rel=>exact ⟨⟨_,rfl⟩,rfl⟩
  | cons nm t0 r=>
   have hnk:r.len+1=nk:=HL.out
   obtain ⟨b,o,c,rfl,e1,e2,-,-⟩:=HK.out.at (j:=0) rfl
   have hn1:(0:Int) < (nk:Int):=by omega
   have hn2:decide ((0:Int) < (nk:Int))=true:=by simp;omega
   have hn3:0 < nk:=by omega
   have e2':wa.cell? ⟨b,o,none⟩=some (.string nm):=by simpa using e2
   have htx:=no_txt nm
   by_cases h0:nm.size=0
   ·have x3:(nm.toList == [])=true:=by rw [htx,h0];rfl
    have x3n:(nm.toList != [])=false:=by unfold bne;rw [x3];rfl
    clear htx
    go_wp2_with fail
    go_meet
    case rel=>exact ⟨⟨_,rfl⟩,rfl⟩
   ·have x3:(nm.toList == [])=false:=by rw [htx];simpa using h0
    have x3n:(nm.toList != [])=true:=by unfold bne;rw [x3];rfl
    have x4:(0:Int) < (nm.size:Int):=by omega
    have x5:0 < nm.size:=by omega
    clear htx
    go_wp2_with fail
    go_meet
    case rel=>exact ⟨⟨_,rfl⟩,rfl⟩
 obtain ⟨⟨b,rfl⟩,rfl⟩:=hcut
 cases b with
 | true=>
  go_wp2_with fail
  refine (HM.out _ (Below.refl _ _)).mono ?_
  rintro e w1 ⟨v1,rfl,hj,hb⟩
  have HBw1:=Lib.hid hb
  have HJ1:=Lib.hid hj
  clear hj
  clear f0 f1 f2 f3 f4 f5 f6 f7 f8 l0
  clear hb
  go_wp2_with fail
  refine (one25N (N:=9) (WhN.lit rfl (by decide) (by omega)) (HJ1.out.imp (S':=fun k=>wc.heap.size≤k) (fun _ _ h=>h.elim (fun h=>h.elim) id) (Nat.le_refl _))).mono ?_
  rintro e w2 ⟨v2,rfl,hj,hb⟩
  have HBw2:=Lib.hid (HBw1.out.trans (hb.mono HBw1.out.size))
  have HJ:Hid (JV (fun k=>False∨w.heap.size+1+1≤k) (80 * t.wt) w2 v2):=Lib.hid (hj.imp (fun i _ h=>.inr (by have h1:=HBw1.out.size;omega)) (by have:=HV.out;omega))
  clear hb
  have hj:=HJ.out
  obtain ⟨k9,x9,a9,n9,c9,j9,rfl,-⟩:=hj
  obtain ⟨c0,c1,c2,r0,r1,r2,l1⟩:=(HXA.out.keep HBw2.out).three
  have HBW:=Lib.hid (HBA.out.trans (HBw2.out.mono HBA.out.size))
  go_wp2_with fail
  refine bodyPost_ret (v:=.agg (jCells k9 x9 a9 n9 c9)) (by simp [results,Tryz.results55,go_sem, *]) rfl ?_
  refine jo_fin (g:=w.heap.size+1) (S:=fun _=>False) (fun _ h=>h.elim) (by omega) HJ.out (Nat.le_refl _) HBW.out ?_
  iterate 3 (refine Chg.set2 ?_ (by exact rfl) _ _)
  exact Chg.refl _ _
 | false=>
  go_wp2_with fail
  refine (HM.out _ (Below.refl _ _)).mono ?_
  rintro e w1 ⟨v1,rfl,hj,hb⟩
  have HBw1:=Lib.hid hb
  have HJ:Hid (JV (fun k=>False∨w.heap.size+1+1≤k) (80 * t.wt) w1 v1):=Lib.hid (hj.imp (fun i _ h=>h.elim (fun h=>h.elim) (fun h=>.inr (by omega))) (by have:=HV.out;omega))
  clear f0 f1 f2 f3 f4 f5 f6 f7 f8 l0
  clear hb
  have hj:=HJ.out
  obtain ⟨k9,x9,a9,n9,c9,j9,rfl,-⟩:=hj
  obtain ⟨c0,c1,c2,r0,r1,r2,l1⟩:=(HXA.out.keep HBw1.out).three
  have HBW:=Lib.hid (HBA.out.trans (HBw1.out.mono HBA.out.size))
  go_wp2_with fail
  refine bodyPost_ret (v:=.agg (jCells k9 x9 a9 n9 c9)) (by simp [results,Tryz.results55,go_sem, *]) rfl ?_
  refine jo_fin (g:=w.heap.size+1) (S:=fun _=>False) (fun _ h=>h.elim) (by omega) HJ.out (Nat.le_refl _) HBW.out ?_
  iterate 3 (refine Chg.set2 ?_ (by exact rfl) _ _)
  exact Chg.refl _ _
theorem w64_leZ (x:Int):wrap64 x≤9223372036854775807:=by unfold wrap64;omega
theorem w64_geZ (x:Int):-9223372036854775808≤wrap64 x:=by unfold wrap64;omega
set_option maxRecDepth 100000 in
set_option maxHeartbeats 4000000 in
theorem rest_6 (t:T) (ez:Bool) (w:World) (bits hi lo:Nat) (text more:ByteArray) (sub:Int) (ab:Option Addr) (nb cb:Nat) (ak:Option Addr) (nk ck:Nat) (h2:2≤t.wt):Calls Tryz.prog 84 #[.agg (valCells 6 bits hi lo text more sub ab nb cb ak nk ck),.bool ez] w (JO (fun _=>False) (80 * t.wt) w):=by
 obtain ⟨wa,hwa⟩:∃ W,W=((w.alloc (.cells (valCells 6 bits hi lo text more sub ab nb cb ak nk ck) 26)).alloc (.cells (jCells 0 ⟨#[]⟩ none 0 0) 53)):=⟨_,rfl⟩
 have HBA:Hid (Below w.heap.size w wa):=Lib.hid (by rw [hwa];exact ((Below.refl _ _).alloc (Nat.le_refl _) _).alloc (by simp) _)
 have HXA:Hid (BoxJ3 wa (w.heap.size+1) z3j):=Lib.hid (by rw [hwa];exact BoxJ3.newG _ _ _ _ (by simp))
 have HBV:Hid (BoxV wa w.heap.size (valCells 6 bits hi lo text more sub ab nb cb ak nk ck)):=Lib.hid (by rw [hwa];exact (BoxV.new w _ _).keep ((Below.refl _ _).alloc (Nat.le_refl _) _))
 have hz2:w.heap.size+2≤wa.heap.size:=HXA.out.1
 have HV:=Lib.hid h2
 clear h2
 obtain ⟨f0,f1,f2,f3,f4,f5,f6,f7,f8,l0⟩:=HBV.out.nine
 go_enter Tryz.func84,Tryz.ntmps84
 go_upto_region 3 with fail
 rw [← hwa]
 clear hwa
 go_wp2_with fail
 refine (one25N (N:=10) (WhN.lit rfl (by decide) (by omega)) (jv_con (fun _=>False) _ 3 (.inr (.inr rfl)))).mono ?_
 rintro e w1 ⟨v1,rfl,hj,hb⟩
 have HBw1:=Lib.hid hb
 have HJ:Hid (JV (fun k=>False∨w.heap.size+1+1≤k) (80 * t.wt) w1 v1):=Lib.hid (hj.imp (fun i _ h=>h.elim (fun h=>h.elim) (fun h=>.inr (by omega))) (by have:=HV.out;omega))
 clear f0 f1 f2 f3 f4 f5 f6 f7 f8 l0
 clear hb
 have hj:=HJ.out
 obtain ⟨k9,x9,a9,n9,c9,j9,rfl,-⟩:=hj
 obtain ⟨c0,c1,c2,r0,r1,r2,l1⟩:=(HXA.out.keep HBw1.out).three
 have HBW:=Lib.hid (HBA.out.trans (HBw1.out.mono HBA.out.size))
 go_wp2_with fail
 refine bodyPost_ret (v:=.agg (jCells k9 x9 a9 n9 c9)) (by simp [results,Tryz.results84,go_sem, *]) rfl ?_
 refine jo_fin (g:=w.heap.size+1) (S:=fun _=>False) (fun _ h=>h.elim) (by omega) HJ.out (Nat.le_refl _) HBW.out ?_
 iterate 3 (refine Chg.set2 ?_ (by exact rfl) _ _)
 exact Chg.refl _ _
set_option maxRecDepth 100000 in
set_option maxHeartbeats 4000000 in
theorem rest_10 (t:T) (ez:Bool) (w:World) (bits hi lo:Nat) (text more:ByteArray) (sub:Int) (ab:Option Addr) (nb cb:Nat) (ak:Option Addr) (nk ck:Nat) (h2:2≤t.wt):Calls Tryz.prog 84 #[.agg (valCells 10 bits hi lo text more sub ab nb cb ak nk ck),.bool ez] w (JO (fun _=>False) (80 * t.wt) w):=by
 obtain ⟨wa,hwa⟩:∃ W,W=((w.alloc (.cells (valCells 10 bits hi lo text more sub ab nb cb ak nk ck) 26)).alloc (.cells (jCells 0 ⟨#[]⟩ none 0 0) 53)):=⟨_,rfl⟩
 have HBA:Hid (Below w.heap.size w wa):=Lib.hid (by rw [hwa];exact ((Below.refl _ _).alloc (Nat.le_refl _) _).alloc (by simp) _)
 have HXA:Hid (BoxJ3 wa (w.heap.size+1) z3j):=Lib.hid (by rw [hwa];exact BoxJ3.newG _ _ _ _ (by simp))
 have HBV:Hid (BoxV wa w.heap.size (valCells 10 bits hi lo text more sub ab nb cb ak nk ck)):=Lib.hid (by rw [hwa];exact (BoxV.new w _ _).keep ((Below.refl _ _).alloc (Nat.le_refl _) _))
 have hz2:w.heap.size+2≤wa.heap.size:=HXA.out.1
 have HV:=Lib.hid h2
 clear h2
 obtain ⟨f0,f1,f2,f3,f4,f5,f6,f7,f8,l0⟩:=HBV.out.nine
 have HJ:Hid (JV (fun k=>False∨w.heap.size+1+1≤k) (80 * t.wt) wa (.agg (jCells 1 ⟨#[]⟩ none 0 0))):=Lib.hid ((jv_con _ wa 1 (by omega)).imp (fun _ _ h=>h) (by have:=HV.out;omega))
 have HB0:=Lib.hid (Below.refl wa.heap.size wa)
 obtain ⟨c0,c1,c2,r0,r1,r2,l1⟩:=HXA.out.three
 go_enter Tryz.func84,Tryz.ntmps84
 go_upto_region 29 with fail
 rw [← hwa]
 clear hwa
 go_wp2_with fail
 refine bodyPost_ret (v:=.agg (jCells 1 ⟨#[]⟩ none 0 0)) (by simp [results,Tryz.results84,go_sem, *]) rfl ?_
 refine jo_fin (g:=w.heap.size+1) (S:=fun _=>False) (fun _ h=>h.elim) (by omega) HJ.out (Nat.le_refl _) HBA.out ?_
 iterate 3 (refine Chg.set2 ?_ (by exact rfl) _ _)
 exact Chg.refl _ _
set_option maxRecDepth 100000 in
set_option maxHeartbeats 4000000 in
theorem rest_8t (t:T) (ez:Bool) (w:World) (bits hi lo:Nat) (text more:ByteArray) (sub:Int) (ab:Option Addr) (nb cb:Nat) (ak:Option Addr) (nk ck:Nat) (h2:2≤t.wt):Calls Tryz.prog 84 #[.agg (valCells 8 1 hi lo text more sub ab nb cb ak nk ck),.bool ez] w (JO (fun _=>False) (80 * t.wt) w):=by
 obtain ⟨wa,hwa⟩:∃ W,W=((w.alloc (.cells (valCells 8 1 hi lo text more sub ab nb cb ak nk ck) 26)).alloc (.cells (jCells 0 ⟨#[]⟩ none 0 0) 53)):=⟨_,rfl⟩
 have HBA:Hid (Below w.heap.size w wa):=Lib.hid (by rw [hwa];exact ((Below.refl _ _).alloc (Nat.le_refl _) _).alloc (by simp) _)
 have HXA:Hid (BoxJ3 wa (w.heap.size+1) z3j):=Lib.hid (by rw [hwa];exact BoxJ3.newG _ _ _ _ (by simp))
 have HBV:Hid (BoxV wa w.heap.size (valCells 8 1 hi lo text more sub ab nb cb ak nk ck)):=Lib.hid (by rw [hwa];exact (BoxV.new w _ _).keep ((Below.refl _ _).alloc (Nat.le_refl _) _))
 have hz2:w.heap.size+2≤wa.heap.size:=HXA.out.1
 have HV:=Lib.hid h2
 clear h2
 obtain ⟨f0,f1,f2,f3,f4,f5,f6,f7,f8,l0⟩:=HBV.out.nine
 have HJ:Hid (JV (fun k=>False∨w.heap.size+1+1≤k) (80 * t.wt) wa (.agg (jCells 3 ⟨#[]⟩ none 0 0))):=Lib.hid ((jv_con _ wa 3 (by omega)).imp (fun _ _ h=>h) (by have:=HV.out;omega))
 have HB0:=Lib.hid (Below.refl wa.heap.size wa)
 obtain ⟨c0,c1,c2,r0,r1,r2,l1⟩:=HXA.out.three
 go_enter Tryz.func84,Tryz.ntmps84
 go_upto_region 6 with fail
 rw [← hwa]
 clear hwa
 go_wp2_with fail
 refine bodyPost_ret (v:=.agg (jCells 3 ⟨#[]⟩ none 0 0)) (by simp [results,Tryz.results84,go_sem, *]) rfl ?_
 refine jo_fin (g:=w.heap.size+1) (S:=fun _=>False) (fun _ h=>h.elim) (by omega) HJ.out (Nat.le_refl _) HBA.out ?_
 iterate 3 (refine Chg.set2 ?_ (by exact rfl) _ _)
 exact Chg.refl _ _
set_option maxRecDepth 100000 in
set_option maxHeartbeats 4000000 in
theorem rest_8f (t:T) (ez:Bool) (w:World) (bits hi lo:Nat) (text more:ByteArray) (sub:Int) (ab:Option Addr) (nb cb:Nat) (ak:Option Addr) (nk ck:Nat) (h2:2≤t.wt) (h1:bits≠1):Calls Tryz.prog 84 #[.agg (valCells 8 bits hi lo text more sub ab nb cb ak nk ck),.bool ez] w (JO (fun _=>False) (80 * t.wt) w):=by
 obtain ⟨wa,hwa⟩:∃ W,W=((w.alloc (.cells (valCells 8 bits hi lo text more sub ab nb cb ak nk ck) 26)).alloc (.cells (jCells 0 ⟨#[]⟩ none 0 0) 53)):=⟨_,rfl⟩
 have HBA:Hid (Below w.heap.size w wa):=Lib.hid (by rw [hwa];exact ((Below.refl _ _).alloc (Nat.le_refl _) _).alloc (by simp) _)
 have HXA:Hid (BoxJ3 wa (w.heap.size+1) z3j):=Lib.hid (by rw [hwa];exact BoxJ3.newG _ _ _ _ (by simp))
 have HBV:Hid (BoxV wa w.heap.size (valCells 8 bits hi lo text more sub ab nb cb ak nk ck)):=Lib.hid (by rw [hwa];exact (BoxV.new w _ _).keep ((Below.refl _ _).alloc (Nat.le_refl _) _))
 have hz2:w.heap.size+2≤wa.heap.size:=HXA.out.1
 have HV:=Lib.hid h2
 clear h2
 have hb1:((bits:Int) == 1)=false:=by simp;omega
 clear h1
 obtain ⟨f0,f1,f2,f3,f4,f5,f6,f7,f8,l0⟩:=HBV.out.nine
 have HJ:Hid (JV (fun k=>False∨w.heap.size+1+1≤k) (80 * t.wt) wa (.agg (jCells 2 ⟨#[]⟩ none 0 0))):=Lib.hid ((jv_con _ wa 2 (by omega)).imp (fun _ _ h=>h) (by have:=HV.out;omega))
 have HB0:=Lib.hid (Below.refl wa.heap.size wa)
 obtain ⟨c0,c1,c2,r0,r1,r2,l1⟩:=HXA.out.three
 go_enter Tryz.func84,Tryz.ntmps84
 go_upto_region 7 with fail
 rw [← hwa]
 clear hwa
 go_wp2_with fail
 refine bodyPost_ret (v:=.agg (jCells 2 ⟨#[]⟩ none 0 0)) (by simp [results,Tryz.results84,go_sem, *]) rfl ?_
 refine jo_fin (g:=w.heap.size+1) (S:=fun _=>False) (fun _ h=>h.elim) (by omega) HJ.out (Nat.le_refl _) HBA.out ?_
 iterate 3 (refine Chg.set2 ?_ (by exact rfl) _ _)
 exact Chg.refl _ _
set_option maxRecDepth 100000 in
set_option maxHeartbeats 4000000 in
theorem rest_255 (t:T) (ez:Bool) (w:World) (bits hi lo:Nat) (text more:ByteArray) (sub:Int) (ab:Option Addr) (nb cb:Nat) (ak:Option Addr) (nk ck:Nat) (h2:2≤t.wt):Calls Tryz.prog 84 #[.agg (valCells 255 bits hi lo text more sub ab nb cb ak nk ck),.bool ez] w (JO (fun _=>False) (80 * t.wt) w):=by
 obtain ⟨wa,hwa⟩:∃ W,W=((w.alloc (.cells (valCells 255 bits hi lo text more sub ab nb cb ak nk ck) 26)).alloc (.cells (jCells 0 ⟨#[]⟩ none 0 0) 53)):=⟨_,rfl⟩
 have HBA:Hid (Below w.heap.size w wa):=Lib.hid (by rw [hwa];exact ((Below.refl _ _).alloc (Nat.le_refl _) _).alloc (by simp) _)
 have HXA:Hid (BoxJ3 wa (w.heap.size+1) z3j):=Lib.hid (by rw [hwa];exact BoxJ3.newG _ _ _ _ (by simp))
 have HBV:Hid (BoxV wa w.heap.size (valCells 255 bits hi lo text more sub ab nb cb ak nk ck)):=Lib.hid (by rw [hwa];exact (BoxV.new w _ _).keep ((Below.refl _ _).alloc (Nat.le_refl _) _))
 have hz2:w.heap.size+2≤wa.heap.size:=HXA.out.1
 have HV:=Lib.hid h2
 clear h2
 obtain ⟨f0,f1,f2,f3,f4,f5,f6,f7,f8,l0⟩:=HBV.out.nine
 go_enter Tryz.func84,Tryz.ntmps84
 go_upto_region 26 with fail
 rw [← hwa]
 clear hwa
 go_wp2_with fail
 refine (num25_calls _ _).mono ?_
 rintro e w1 ⟨rfl,hb⟩
 have HBw1:=Lib.hid hb
 clear f0 f1 f2 f3 f4 f5 f6 f7 f8 l0
 clear hb
 go_wp2_with fail
 refine (one25N (N:=7) (WhN.lit rfl (by decide) (by omega)) (jv_num (fun _=>False) _ _ (by decide) (by decide))).mono ?_
 rintro e w2 ⟨v2,rfl,hj,hb⟩
 have HBw2:=Lib.hid (HBw1.out.trans (hb.mono HBw1.out.size))
 have HJ:Hid (JV (fun k=>False∨w.heap.size+1+1≤k) (80 * t.wt) w2 v2):=Lib.hid (hj.imp (fun i _ h=>h.elim (fun h=>h.elim) (fun h=>.inr (by have h1:=HBw1.out.size;omega))) (by have h8:(⟨#[49]⟩:ByteArray).size=1:=rfl;have:=HV.out;omega))
 clear hb
 have hj:=HJ.out
 obtain ⟨k9,x9,a9,n9,c9,j9,rfl,-⟩:=hj
 obtain ⟨c0,c1,c2,r0,r1,r2,l1⟩:=(HXA.out.keep HBw2.out).three
 have HBW:=Lib.hid (HBA.out.trans (HBw2.out.mono HBA.out.size))
 go_wp2_with fail
 refine bodyPost_ret (v:=.agg (jCells k9 x9 a9 n9 c9)) (by simp [results,Tryz.results84,go_sem, *]) rfl ?_
 refine jo_fin (g:=w.heap.size+1) (S:=fun _=>False) (fun _ h=>h.elim) (by omega) HJ.out (Nat.le_refl _) HBW.out ?_
 iterate 3 (refine Chg.set2 ?_ (by exact rfl) _ _)
 exact Chg.refl _ _
set_option maxRecDepth 100000 in
set_option maxHeartbeats 4000000 in
theorem rest_127 (t:T) (ez:Bool) (w:World) (bits hi lo:Nat) (text more:ByteArray) (sub:Int) (ab:Option Addr) (nb cb:Nat) (ak:Option Addr) (nk ck:Nat) (h2:2≤t.wt):Calls Tryz.prog 84 #[.agg (valCells 127 bits hi lo text more sub ab nb cb ak nk ck),.bool ez] w (JO (fun _=>False) (80 * t.wt) w):=by
 obtain ⟨wa,hwa⟩:∃ W,W=((w.alloc (.cells (valCells 127 bits hi lo text more sub ab nb cb ak nk ck) 26)).alloc (.cells (jCells 0 ⟨#[]⟩ none 0 0) 53)):=⟨_,rfl⟩
 have HBA:Hid (Below w.heap.size w wa):=Lib.hid (by rw [hwa];exact ((Below.refl _ _).alloc (Nat.le_refl _) _).alloc (by simp) _)
 have HXA:Hid (BoxJ3 wa (w.heap.size+1) z3j):=Lib.hid (by rw [hwa];exact BoxJ3.newG _ _ _ _ (by simp))
 have HBV:Hid (BoxV wa w.heap.size (valCells 127 bits hi lo text more sub ab nb cb ak nk ck)):=Lib.hid (by rw [hwa];exact (BoxV.new w _ _).keep ((Below.refl _ _).alloc (Nat.le_refl _) _))
 have hz2:w.heap.size+2≤wa.heap.size:=HXA.out.1
 have HV:=Lib.hid h2
 clear h2
 obtain ⟨f0,f1,f2,f3,f4,f5,f6,f7,f8,l0⟩:=HBV.out.nine
 go_enter Tryz.func84,Tryz.ntmps84
 go_upto_region 28 with fail
 rw [← hwa]
 clear hwa
 go_wp2_with fail
 refine (num25_calls _ _).mono ?_
 rintro e w1 ⟨rfl,hb⟩
 have HBw1:=Lib.hid hb
 clear f0 f1 f2 f3 f4 f5 f6 f7 f8 l0
 clear hb
 go_wp2_with fail
 refine (one25N (N:=7) (WhN.lit rfl (by decide) (by omega)) (jv_num (fun _=>False) _ _ (by decide) (by decide))).mono ?_
 rintro e w2 ⟨v2,rfl,hj,hb⟩
 have HBw2:=Lib.hid (HBw1.out.trans (hb.mono HBw1.out.size))
 have HJ:Hid (JV (fun k=>False∨w.heap.size+1+1≤k) (80 * t.wt) w2 v2):=Lib.hid (hj.imp (fun i _ h=>h.elim (fun h=>h.elim) (fun h=>.inr (by have h1:=HBw1.out.size;omega))) (by have h8:(⟨#[49]⟩:ByteArray).size=1:=rfl;have:=HV.out;omega))
 clear hb
 have hj:=HJ.out
 obtain ⟨k9,x9,a9,n9,c9,j9,rfl,-⟩:=hj
 obtain ⟨c0,c1,c2,r0,r1,r2,l1⟩:=(HXA.out.keep HBw2.out).three
 have HBW:=Lib.hid (HBA.out.trans (HBw2.out.mono HBA.out.size))
 go_wp2_with fail
 refine bodyPost_ret (v:=.agg (jCells k9 x9 a9 n9 c9)) (by simp [results,Tryz.results84,go_sem, *]) rfl ?_
 refine jo_fin (g:=w.heap.size+1) (S:=fun _=>False) (fun _ h=>h.elim) (by omega) HJ.out (Nat.le_refl _) HBW.out ?_
 iterate 3 (refine Chg.set2 ?_ (by exact rfl) _ _)
 exact Chg.refl _ _
set_option maxRecDepth 100000 in
set_option maxHeartbeats 4000000 in
theorem rest_9 (t:T) (ez:Bool) (w:World) (bits hi lo:Nat) (text more:ByteArray) (sub:Int) (ab:Option Addr) (nb cb:Nat) (ak:Option Addr) (nk ck:Nat) (h2:2≤t.wt):Calls Tryz.prog 84 #[.agg (valCells 9 bits hi lo text more sub ab nb cb ak nk ck),.bool ez] w (JO (fun _=>False) (80 * t.wt) w):=by
 obtain ⟨wa,hwa⟩:∃ W,W=((w.alloc (.cells (valCells 9 bits hi lo text more sub ab nb cb ak nk ck) 26)).alloc (.cells (jCells 0 ⟨#[]⟩ none 0 0) 53)):=⟨_,rfl⟩
 have HBA:Hid (Below w.heap.size w wa):=Lib.hid (by rw [hwa];exact ((Below.refl _ _).alloc (Nat.le_refl _) _).alloc (by simp) _)
 have HXA:Hid (BoxJ3 wa (w.heap.size+1) z3j):=Lib.hid (by rw [hwa];exact BoxJ3.newG _ _ _ _ (by simp))
 have HBV:Hid (BoxV wa w.heap.size (valCells 9 bits hi lo text more sub ab nb cb ak nk ck)):=Lib.hid (by rw [hwa];exact (BoxV.new w _ _).keep ((Below.refl _ _).alloc (Nat.le_refl _) _))
 have hz2:w.heap.size+2≤wa.heap.size:=HXA.out.1
 have HV:=Lib.hid h2
 have CI:=Lib.hid (fun v W=>intT_calls (wrap64 v) (w64_geZ v) (w64_leZ v) W)
 clear h2
 obtain ⟨f0,f1,f2,f3,f4,f5,f6,f7,f8,l0⟩:=HBV.out.nine
 go_enter Tryz.func84,Tryz.ntmps84
 go_upto_region 9 with fail
 rw [← hwa]
 clear hwa
 go_wp2_with fail
 refine (time_calls _ _).mono ?_
 rintro e w1 ⟨⟨s1,ok,rfl,hs1⟩,hb⟩
 have HBw1:=Lib.hid hb
 have HS1:=Lib.hid hs1
 have HBV1:=Lib.hid (HBV.out.keep hb)
 clear hb hs1 f0 f1 f2 f3 f4 f5 f6 f7 f8 l0
 obtain ⟨f0,f1,f2,f3,f4,f5,f6,f7,f8,l0⟩:=HBV1.out.nine
 cases ez with
 | false=>
  go_wp2_with fail
  refine (CI.out _ _).mono ?_
  rintro e w2 ⟨⟨s,rfl,hs,hlx⟩,hb⟩
  have HBw2:=Lib.hid (HBw1.out.trans (hb.mono HBw1.out.size))
  have HS:=Lib.hid hs
  clear hs hlx
  clear f0 f1 f2 f3 f4 f5 f6 f7 f8 l0
  clear hb
  go_wp2_with fail
  refine (str25_calls s _).mono ?_
  rintro e w3 ⟨rfl,hb⟩
  have HBw3:=Lib.hid (HBw2.out.trans (hb.mono HBw2.out.size))
  clear hb
  go_wp2_with fail
  refine (one25N (N:=11) (WhN.lit rfl (by decide) (by omega)) (jv_str (fun _=>False) _ s (HS.out.wh (by omega)))).mono ?_
  rintro e w4 ⟨v4,rfl,hj,hb⟩
  have HBw4:=Lib.hid (HBw3.out.trans (hb.mono HBw3.out.size))
  have HJ4:=Lib.hid hj
  clear hj
  clear hb
  go_wp2_with fail
  refine (one25N (N:=5) (WhN.lit rfl (by decide) (by omega)) (HJ4.out.imp (S':=fun k=>wa.heap.size≤k) (fun i _ h=>h.elim (fun h=>h.elim) (fun h=>by have h1:=HBw3.out.size;omega)) (Nat.le_refl _))).mono ?_
  rintro e w5 ⟨v5,rfl,hj,hb⟩
  have HBw5:=Lib.hid (HBw4.out.trans (hb.mono HBw4.out.size))
  have HJ:Hid (JV (fun k=>False∨w.heap.size+1+1≤k) (80 * t.wt) w5 v5):=Lib.hid (hj.imp (fun i _ h=>.inr (by have h1:=HBw4.out.size;omega)) (by have:=HV.out;have:=HS.out.2;omega))
  clear hb
  have hj:=HJ.out
  obtain ⟨k9,x9,a9,n9,c9,j9,rfl,-⟩:=hj
  obtain ⟨c0,c1,c2,r0,r1,r2,l1⟩:=(HXA.out.keep HBw5.out).three
  have HBW:=Lib.hid (HBA.out.trans (HBw5.out.mono HBA.out.size))
  go_wp2_with fail
  refine bodyPost_ret (v:=.agg (jCells k9 x9 a9 n9 c9)) (by simp [results,Tryz.results84,go_sem, *]) rfl ?_
  refine jo_fin (g:=w.heap.size+1) (S:=fun _=>False) (fun _ h=>h.elim) (by omega) HJ.out (Nat.le_refl _) HBW.out ?_
  iterate 3 (refine Chg.set2 ?_ (by exact rfl) _ _)
  exact Chg.refl _ _
 | true=>
  cases ok with
  | false=>
   go_wp2_with fail
   refine (CI.out _ _).mono ?_
   rintro e w2 ⟨⟨s,rfl,hs,hlx⟩,hb⟩
   have HBw2:=Lib.hid (HBw1.out.trans (hb.mono HBw1.out.size))
   have HS:=Lib.hid hs
   clear hs hlx
   clear f0 f1 f2 f3 f4 f5 f6 f7 f8 l0
   clear hb
   go_wp2_with fail
   refine (str25_calls s _).mono ?_
   rintro e w3 ⟨rfl,hb⟩
   have HBw3:=Lib.hid (HBw2.out.trans (hb.mono HBw2.out.size))
   clear hb
   go_wp2_with fail
   refine (one25N (N:=11) (WhN.lit rfl (by decide) (by omega)) (jv_str (fun _=>False) _ s (HS.out.wh (by omega)))).mono ?_
   rintro e w4 ⟨v4,rfl,hj,hb⟩
   have HBw4:=Lib.hid (HBw3.out.trans (hb.mono HBw3.out.size))
   have HJ4:=Lib.hid hj
   clear hj
   clear hb
   go_wp2_with fail
   refine (one25N (N:=5) (WhN.lit rfl (by decide) (by omega)) (HJ4.out.imp (S':=fun k=>wa.heap.size≤k) (fun i _ h=>h.elim (fun h=>h.elim) (fun h=>by have h1:=HBw3.out.size;omega)) (Nat.le_refl _))).mono ?_
   rintro e w5 ⟨v5,rfl,hj,hb⟩
   have HBw5:=Lib.hid (HBw4.out.trans (hb.mono HBw4.out.size))
   have HJ:Hid (JV (fun k=>False∨w.heap.size+1+1≤k) (80 * t.wt) w5 v5):=Lib.hid (hj.imp (fun i _ h=>.inr (by have h1:=HBw4.out.size;omega)) (by have:=HV.out;have:=HS.out.2;omega))
   clear hb
   have hj:=HJ.out
   obtain ⟨k9,x9,a9,n9,c9,j9,rfl,-⟩:=hj
   obtain ⟨c0,c1,c2,r0,r1,r2,l1⟩:=(HXA.out.keep HBw5.out).three
   have HBW:=Lib.hid (HBA.out.trans (HBw5.out.mono HBA.out.size))
   go_wp2_with fail
   refine bodyPost_ret (v:=.agg (jCells k9 x9 a9 n9 c9)) (by simp [results,Tryz.results84,go_sem, *]) rfl ?_
   refine jo_fin (g:=w.heap.size+1) (S:=fun _=>False) (fun _ h=>h.elim) (by omega) HJ.out (Nat.le_refl _) HBW.out ?_
   iterate 3 (refine Chg.set2 ?_ (by exact rfl) _ _)
   exact Chg.refl _ _
  | true=>
   go_wp2_with fail
   refine (str25_calls s1 _).mono ?_
   rintro e w2 ⟨rfl,hb⟩
   have HBw2:=Lib.hid (HBw1.out.trans (hb.mono HBw1.out.size))
   clear f0 f1 f2 f3 f4 f5 f6 f7 f8 l0
   clear hb
   go_wp2_with fail
   refine (one25N (N:=5) (WhN.lit rfl (by decide) (by omega)) (jv_str (fun _=>False) _ s1 (HS1.out.wh (by omega)))).mono ?_
   rintro e w3 ⟨v3,rfl,hj,hb⟩
   have HBw3:=Lib.hid (HBw2.out.trans (hb.mono HBw2.out.size))
   have HJ:Hid (JV (fun k=>False∨w.heap.size+1+1≤k) (80 * t.wt) w3 v3):=Lib.hid (hj.imp (fun i _ h=>h.elim (fun h=>h.elim) (fun h=>.inr (by have h1:=HBw2.out.size;omega))) (by have:=HS1.out.2;have:=HV.out;omega))
   clear hb
   have hj:=HJ.out
   obtain ⟨k9,x9,a9,n9,c9,j9,rfl,-⟩:=hj
   obtain ⟨c0,c1,c2,r0,r1,r2,l1⟩:=(HXA.out.keep HBw3.out).three
   have HBW:=Lib.hid (HBA.out.trans (HBw3.out.mono HBA.out.size))
   go_wp2_with fail
   refine bodyPost_ret (v:=.agg (jCells k9 x9 a9 n9 c9)) (by simp [results,Tryz.results84,go_sem, *]) rfl ?_
   refine jo_fin (g:=w.heap.size+1) (S:=fun _=>False) (fun _ h=>h.elim) (by omega) HJ.out (Nat.le_refl _) HBW.out ?_
   iterate 3 (refine Chg.set2 ?_ (by exact rfl) _ _)
   exact Chg.refl _ _
set_option maxRecDepth 100000 in
set_option maxHeartbeats 4000000 in
theorem int32_calls (v:Nat) (w:World):Calls Tryz.prog 97 #[.int .u64 (v:Nat)] w fun e w'=>(∃ n:Int,e=.returned (.int .i64 n)∧-9223372036854775808≤n∧n≤9223372036854775807)∧w'=w:=by
 have hw9:∀ n:Int,-9223372036854775808≤wrap64 n∧wrap64 n≤9223372036854775807:=fun n=>⟨w64_geZ n,w64_leZ n⟩
 have HW9:=Lib.hid hw9
 clear hw9
 go_enter Tryz.func97,Tryz.ntmps97
 go_wp2_with fail
 go_ret
 exact ⟨⟨_,rfl,(HW9.out _).1,(HW9.out _).2⟩,rfl⟩
set_option maxRecDepth 100000 in
set_option maxHeartbeats 4000000 in
theorem rest_16 (t:T) (ez:Bool) (w:World) (bits hi lo:Nat) (text more:ByteArray) (sub:Int) (ab:Option Addr) (nb cb:Nat) (ak:Option Addr) (nk ck:Nat) (h2:2≤t.wt):Calls Tryz.prog 84 #[.agg (valCells 16 bits hi lo text more sub ab nb cb ak nk ck),.bool ez] w (JO (fun _=>False) (80 * t.wt) w):=by
 obtain ⟨wa,hwa⟩:∃ W,W=((w.alloc (.cells (valCells 16 bits hi lo text more sub ab nb cb ak nk ck) 26)).alloc (.cells (jCells 0 ⟨#[]⟩ none 0 0) 53)):=⟨_,rfl⟩
 have HBA:Hid (Below w.heap.size w wa):=Lib.hid (by rw [hwa];exact ((Below.refl _ _).alloc (Nat.le_refl _) _).alloc (by simp) _)
 have HXA:Hid (BoxJ3 wa (w.heap.size+1) z3j):=Lib.hid (by rw [hwa];exact BoxJ3.newG _ _ _ _ (by simp))
 have HBV:Hid (BoxV wa w.heap.size (valCells 16 bits hi lo text more sub ab nb cb ak nk ck)):=Lib.hid (by rw [hwa];exact (BoxV.new w _ _).keep ((Below.refl _ _).alloc (Nat.le_refl _) _))
 have hz2:w.heap.size+2≤wa.heap.size:=HXA.out.1
 have HV:=Lib.hid h2
 have CI:=Lib.hid (fun v h1 h2 W=>intT_calls v h1 h2 W)
 have C3:=Lib.hid (fun W=>int32_calls bits W)
 have HW9:Hid (∀ n:Int,-9223372036854775808≤wrap64 n∧wrap64 n≤9223372036854775807):=Lib.hid fun n=>⟨w64_geZ n,w64_leZ n⟩
 clear h2
 obtain ⟨f0,f1,f2,f3,f4,f5,f6,f7,f8,l0⟩:=HBV.out.nine
 go_enter Tryz.func84,Tryz.ntmps84
 go_upto_region 15 with fail
 rw [← hwa]
 clear hwa
 go_quiet (fail)
 obtain ⟨wq,hwq⟩:∃ W,W=wa.drewN nq:=⟨_,rfl⟩
 have HBq:Hid (Below wa.heap.size wa wq):=Lib.hid (by rw [hwq];exact below_drewN _ _ _)
 rw [← hwq]
 have HBVq:=Lib.hid (HBV.out.keep HBq.out)
 clear hwq f0 f1 f2 f3 f4 f5 f6 f7 f8 l0
 obtain ⟨f0,f1,f2,f3,f4,f5,f6,f7,f8,l0⟩:=HBVq.out.nine
 go_wp2_with fail
 refine (C3.out _).mono ?_
 rintro e w1 ⟨⟨n1,rfl,hn1,hn2⟩,rfl⟩
 have HN:=Lib.hid (And.intro hn1 hn2)
 clear hn1 hn2
 cases ez with
 | true=>
  go_wp2_with fail
  refine (CI.out n1 HN.out.1 HN.out.2 _).mono ?_
  rintro e w2 ⟨⟨s,rfl,hs,hlx⟩,hb⟩
  have HBw2:=Lib.hid (HBq.out.trans (hb.mono HBq.out.size))
  have HS:=Lib.hid hs
  have HLX:=Lib.hid hlx
  clear hs hlx
  clear hb
  go_wp2_with fail
  refine (num25_calls s _).mono ?_
  rintro e w3 ⟨rfl,hb⟩
  have HBw3:=Lib.hid (HBw2.out.trans (hb.mono HBw2.out.size))
  have hj:=jv_num (fun k=>False∨w.heap.size+1+1≤k) w3 s HLX.out (by have:=HS.out.2;omega)
  have HJ:=Lib.hid (hj.imp (B':=80 * t.wt) (fun _ _ h=>h) (by have:=HV.out;have:=HS.out.2;omega))
  clear f0 f1 f2 f3 f4 f5 f6 f7 f8 l0
  clear hb
  obtain ⟨c0,c1,c2,r0,r1,r2,l1⟩:=(HXA.out.keep HBw3.out).three
  have HBW:=Lib.hid (HBA.out.trans (HBw3.out.mono HBA.out.size))
  go_wp2_with fail
  refine bodyPost_ret (v:=.agg (jCells 4 s none 0 0)) (by simp [results,Tryz.results84,go_sem, *]) rfl ?_
  refine jo_fin (g:=w.heap.size+1) (S:=fun _=>False) (fun _ h=>h.elim) (by omega) HJ.out (Nat.le_refl _) HBW.out ?_
  iterate 3 (refine Chg.set2 ?_ (by exact rfl) _ _)
  exact Chg.refl _ _
 | false=>
  go_wp2_with fail
  refine (CI.out n1 HN.out.1 HN.out.2 _).mono ?_
  rintro e w2 ⟨⟨s,rfl,hs,hlx⟩,hb⟩
  have HBw2:=Lib.hid (HBq.out.trans (hb.mono HBq.out.size))
  have HS:=Lib.hid hs
  clear hs hlx
  clear f0 f1 f2 f3 f4 f5 f6 f7 f8 l0
  clear hb
  go_wp2_with fail
  refine (str25_calls s _).mono ?_
  rintro e w3 ⟨rfl,hb⟩
  have HBw3:=Lib.hid (HBw2.out.trans (hb.mono HBw2.out.size))
  clear hb
  go_wp2_with fail
  refine (one25N (N:=10) (WhN.lit rfl (by decide) (by omega)) (jv_str (fun _=>False) _ s (HS.out.wh (by omega)))).mono ?_
  rintro e w4 ⟨v4,rfl,hj,hb⟩
  have HBw4:=Lib.hid (HBw3.out.trans (hb.mono HBw3.out.size))
  have HJ:Hid (JV (fun k=>False∨w.heap.size+1+1≤k) (80 * t.wt) w4 v4):=Lib.hid (hj.imp (fun i _ h=>h.elim (fun h=>h.elim) (fun h=>.inr (by have h1:=HBw3.out.size;omega))) (by have:=HV.out;have:=HS.out.2;omega))
  clear hb
  have hj:=HJ.out
  obtain ⟨k9,x9,a9,n9,c9,j9,rfl,-⟩:=hj
  obtain ⟨c0,c1,c2,r0,r1,r2,l1⟩:=(HXA.out.keep HBw4.out).three
  have HBW:=Lib.hid (HBA.out.trans (HBw4.out.mono HBA.out.size))
  go_wp2_with fail
  refine bodyPost_ret (v:=.agg (jCells k9 x9 a9 n9 c9)) (by simp [results,Tryz.results84,go_sem, *]) rfl ?_
  refine jo_fin (g:=w.heap.size+1) (S:=fun _=>False) (fun _ h=>h.elim) (by omega) HJ.out (Nat.le_refl _) HBW.out ?_
  iterate 3 (refine Chg.set2 ?_ (by exact rfl) _ _)
  exact Chg.refl _ _
set_option maxRecDepth 100000 in
set_option maxHeartbeats 4000000 in
theorem rest_18 (t:T) (ez:Bool) (w:World) (bits hi lo:Nat) (text more:ByteArray) (sub:Int) (ab:Option Addr) (nb cb:Nat) (ak:Option Addr) (nk ck:Nat) (h2:2≤t.wt):Calls Tryz.prog 84 #[.agg (valCells 18 bits hi lo text more sub ab nb cb ak nk ck),.bool ez] w (JO (fun _=>False) (80 * t.wt) w):=by
 obtain ⟨wa,hwa⟩:∃ W,W=((w.alloc (.cells (valCells 18 bits hi lo text more sub ab nb cb ak nk ck) 26)).alloc (.cells (jCells 0 ⟨#[]⟩ none 0 0) 53)):=⟨_,rfl⟩
 have HBA:Hid (Below w.heap.size w wa):=Lib.hid (by rw [hwa];exact ((Below.refl _ _).alloc (Nat.le_refl _) _).alloc (by simp) _)
 have HXA:Hid (BoxJ3 wa (w.heap.size+1) z3j):=Lib.hid (by rw [hwa];exact BoxJ3.newG _ _ _ _ (by simp))
 have HBV:Hid (BoxV wa w.heap.size (valCells 18 bits hi lo text more sub ab nb cb ak nk ck)):=Lib.hid (by rw [hwa];exact (BoxV.new w _ _).keep ((Below.refl _ _).alloc (Nat.le_refl _) _))
 have hz2:w.heap.size+2≤wa.heap.size:=HXA.out.1
 have HV:=Lib.hid h2
 have CI:=Lib.hid (fun v h1 h2 W=>intT_calls v h1 h2 W)
 have C3:=Lib.hid (fun W=>int32_calls bits W)
 have HW9:Hid (∀ n:Int,-9223372036854775808≤wrap64 n∧wrap64 n≤9223372036854775807):=Lib.hid fun n=>⟨w64_geZ n,w64_leZ n⟩
 clear h2
 obtain ⟨f0,f1,f2,f3,f4,f5,f6,f7,f8,l0⟩:=HBV.out.nine
 go_enter Tryz.func84,Tryz.ntmps84
 go_upto_region 15 with fail
 rw [← hwa]
 clear hwa
 go_quiet (fail)
 obtain ⟨wq,hwq⟩:∃ W,W=wa.drewN nq:=⟨_,rfl⟩
 have HBq:Hid (Below wa.heap.size wa wq):=Lib.hid (by rw [hwq];exact below_drewN _ _ _)
 rw [← hwq]
 have HBVq:=Lib.hid (HBV.out.keep HBq.out)
 clear hwq f0 f1 f2 f3 f4 f5 f6 f7 f8 l0
 obtain ⟨f0,f1,f2,f3,f4,f5,f6,f7,f8,l0⟩:=HBVq.out.nine
 cases ez with
 | true=>
  go_wp2_with fail
  refine (CI.out _ (HW9.out _).1 (HW9.out _).2 _).mono ?_
  rintro e w2 ⟨⟨s,rfl,hs,hlx⟩,hb⟩
  have HBw2:=Lib.hid (HBq.out.trans (hb.mono HBq.out.size))
  have HS:=Lib.hid hs
  have HLX:=Lib.hid hlx
  clear hs hlx
  clear hb
  go_wp2_with fail
  refine (num25_calls s _).mono ?_
  rintro e w3 ⟨rfl,hb⟩
  have HBw3:=Lib.hid (HBw2.out.trans (hb.mono HBw2.out.size))
  have hj:=jv_num (fun k=>False∨w.heap.size+1+1≤k) w3 s HLX.out (by have:=HS.out.2;omega)
  have HJ:=Lib.hid (hj.imp (B':=80 * t.wt) (fun _ _ h=>h) (by have:=HV.out;have:=HS.out.2;omega))
  clear f0 f1 f2 f3 f4 f5 f6 f7 f8 l0
  clear hb
  obtain ⟨c0,c1,c2,r0,r1,r2,l1⟩:=(HXA.out.keep HBw3.out).three
  have HBW:=Lib.hid (HBA.out.trans (HBw3.out.mono HBA.out.size))
  go_wp2_with fail
  refine bodyPost_ret (v:=.agg (jCells 4 s none 0 0)) (by simp [results,Tryz.results84,go_sem, *]) rfl ?_
  refine jo_fin (g:=w.heap.size+1) (S:=fun _=>False) (fun _ h=>h.elim) (by omega) HJ.out (Nat.le_refl _) HBW.out ?_
  iterate 3 (refine Chg.set2 ?_ (by exact rfl) _ _)
  exact Chg.refl _ _
 | false=>
  go_wp2_with fail
  refine (CI.out _ (HW9.out _).1 (HW9.out _).2 _).mono ?_
  rintro e w2 ⟨⟨s,rfl,hs,hlx⟩,hb⟩
  have HBw2:=Lib.hid (HBq.out.trans (hb.mono HBq.out.size))
  have HS:=Lib.hid hs
  clear hs hlx
  clear f0 f1 f2 f3 f4 f5 f6 f7 f8 l0
  clear hb
  go_wp2_with fail
  refine (str25_calls s _).mono ?_
  rintro e w3 ⟨rfl,hb⟩
  have HBw3:=Lib.hid (HBw2.out.trans (hb.mono HBw2.out.size))
  clear hb
  go_wp2_with fail
  refine (one25N (N:=11) (WhN.lit rfl (by decide) (by omega)) (jv_str (fun _=>False) _ s (HS.out.wh (by omega)))).mono ?_
  rintro e w4 ⟨v4,rfl,hj,hb⟩
  have HBw4:=Lib.hid (HBw3.out.trans (hb.mono HBw3.out.size))
  have HJ:Hid (JV (fun k=>False∨w.heap.size+1+1≤k) (80 * t.wt) w4 v4):=Lib.hid (hj.imp (fun i _ h=>h.elim (fun h=>h.elim) (fun h=>.inr (by have h1:=HBw3.out.size;omega))) (by have:=HV.out;have:=HS.out.2;omega))
  clear hb
  have hj:=HJ.out
  obtain ⟨k9,x9,a9,n9,c9,j9,rfl,-⟩:=hj
  obtain ⟨c0,c1,c2,r0,r1,r2,l1⟩:=(HXA.out.keep HBw4.out).three
  have HBW:=Lib.hid (HBA.out.trans (HBw4.out.mono HBA.out.size))
  go_wp2_with fail
  refine bodyPost_ret (v:=.agg (jCells k9 x9 a9 n9 c9)) (by simp [results,Tryz.results84,go_sem, *]) rfl ?_
  refine jo_fin (g:=w.heap.size+1) (S:=fun _=>False) (fun _ h=>h.elim) (by omega) HJ.out (Nat.le_refl _) HBW.out ?_
  iterate 3 (refine Chg.set2 ?_ (by exact rfl) _ _)
  exact Chg.refl _ _
set_option maxRecDepth 100000 in
set_option maxHeartbeats 4000000 in
theorem rest_19 (t:T) (ez:Bool) (w:World) (bits hi lo:Nat) (text more:ByteArray) (sub:Int) (ab:Option Addr) (nb cb:Nat) (ak:Option Addr) (nk ck:Nat) (h2:2≤t.wt) (hh:hi < okSize) (hl:lo < okSize):Calls Tryz.prog 84 #[.agg (valCells 19 bits hi lo text more sub ab nb cb ak nk ck),.bool ez] w (JO (fun _=>False) (80 * t.wt) w):=by
 obtain ⟨wa,hwa⟩:∃ W,W=((w.alloc (.cells (valCells 19 bits hi lo text more sub ab nb cb ak nk ck) 26)).alloc (.cells (jCells 0 ⟨#[]⟩ none 0 0) 53)):=⟨_,rfl⟩
 have HBA:Hid (Below w.heap.size w wa):=Lib.hid (by rw [hwa];exact ((Below.refl _ _).alloc (Nat.le_refl _) _).alloc (by simp) _)
 have HXA:Hid (BoxJ3 wa (w.heap.size+1) z3j):=Lib.hid (by rw [hwa];exact BoxJ3.newG _ _ _ _ (by simp))
 have HBV:Hid (BoxV wa w.heap.size (valCells 19 bits hi lo text more sub ab nb cb ak nk ck)):=Lib.hid (by rw [hwa];exact (BoxV.new w _ _).keep ((Below.refl _ _).alloc (Nat.le_refl _) _))
 have hz2:w.heap.size+2≤wa.heap.size:=HXA.out.1
 have HV:=Lib.hid h2
 have CP:=Lib.hid (fun W=>plain_calls hi lo hh hl W)
 have CD:=Lib.hid (fun W=>decText_calls hi lo hh hl W)
 have CH:=Lib.hid (fun W=>hex25_calls hi hh W)
 have CL:=Lib.hid (fun W=>hex25_calls lo hl W)
 clear h2 hh hl
 obtain ⟨f0,f1,f2,f3,f4,f5,f6,f7,f8,l0⟩:=HBV.out.nine
 go_enter Tryz.func84,Tryz.ntmps84
 go_upto_region 22 with fail
 rw [← hwa]
 clear hwa
 go_wp2_with fail
 refine (CP.out _).mono ?_
 rintro e w1 ⟨⟨tp,rfl⟩,hb⟩
 have HB1:=Lib.hid hb
 have HBV1:=Lib.hid (HBV.out.keep hb)
 have HXA1:=Lib.hid (HXA.out.keep hb)
 have HBA1:=Lib.hid (HBA.out.trans (hb.mono HBA.out.size))
 have hz1:w.heap.size+2≤w1.heap.size:=HXA1.out.1
 clear hb f0 f1 f2 f3 f4 f5 f6 f7 f8 l0 hz2 HBV HXA HBA HB1
 obtain ⟨f0,f1,f2,f3,f4,f5,f6,f7,f8,l0⟩:=HBV1.out.nine
 cases tp with
 | true=>
  go_wp2_with fail
  refine (CD.out _).mono ?_
  rintro e w2 ⟨⟨s,rfl,hs⟩,hb⟩
  have HBw2:=Lib.hid hb
  have HS:=Lib.hid hs
  clear hs
  clear f0 f1 f2 f3 f4 f5 f6 f7 f8 l0
  clear hb
  go_wp2_with fail
  refine (str25_calls s _).mono ?_
  rintro e w3 ⟨rfl,hb⟩
  have HBw3:=Lib.hid (HBw2.out.trans (hb.mono HBw2.out.size))
  clear hb
  go_wp2_with fail
  refine (one25N (N:=14) (WhN.lit rfl (by decide) (by omega)) (jv_str (fun _=>False) _ s (HS.out.wh (by omega)))).mono ?_
  rintro e w4 ⟨v4,rfl,hj,hb⟩
  have HBw4:=Lib.hid (HBw3.out.trans (hb.mono HBw3.out.size))
  have HJ:Hid (JV (fun k=>False∨w.heap.size+1+1≤k) (80 * t.wt) w4 v4):=Lib.hid (hj.imp (fun i _ h=>h.elim (fun h=>h.elim) (fun h=>.inr (by have h1:=HBw3.out.size;omega))) (by have:=HV.out;have:=HS.out.2;omega))
  clear hb
  have hj:=HJ.out
  obtain ⟨k9,x9,a9,n9,c9,j9,rfl,-⟩:=hj
  obtain ⟨c0,c1,c2,r0,r1,r2,l1⟩:=(HXA1.out.keep HBw4.out).three
  have HBW:=Lib.hid (HBA1.out.trans (HBw4.out.mono HBA1.out.size))
  go_wp2_with fail
  refine bodyPost_ret (v:=.agg (jCells k9 x9 a9 n9 c9)) (by simp [results,Tryz.results84,go_sem, *]) rfl ?_
  refine jo_fin (g:=w.heap.size+1) (S:=fun _=>False) (fun _ h=>h.elim) (by omega) HJ.out (Nat.le_refl _) HBW.out ?_
  iterate 3 (refine Chg.set2 ?_ (by exact rfl) _ _)
  exact Chg.refl _ _
 | false=>
  obtain ⟨c0,c1,c2,r0,r1,r2,l1⟩:=HXA1.out.three
  have hZ:w1.cell? ⟨w.heap.size,2,none⟩=some (.int .u64 (hi:Nat))∧w1.cell? ⟨w.heap.size,3,none⟩=some (.int .u64 (lo:Nat)):=⟨f2,f3⟩
  have HZ:=Lib.hid hZ
  clear hZ
  have HKS:Hid (∀ W,Chg (fun k=>k=w.heap.size+1) w1 W→(fun W=>Hid (Chg (fun k=>k=w.heap.size+1) w1 W)∧W.cell? ⟨w.heap.size,2,none⟩=some (.int .u64 (hi:Nat))∧W.cell? ⟨w.heap.size,3,none⟩=some (.int .u64 (lo:Nat))) W):=Lib.hid fun W h=>⟨Lib.hid h,⟨h.cell (by intro e;simp at e) HZ.out.1,h.cell (by intro e;simp at e) HZ.out.2⟩⟩
  clear HZ
  go_upto_region 24 with fail
  go_region_held3 (fun W=>Hid (Chg (fun k=>k=w.heap.size+1) w1 W)∧W.cell? ⟨w.heap.size,2,none⟩=some (.int .u64 (hi:Nat))∧W.cell? ⟨w.heap.size,3,none⟩=some (.int .u64 (lo:Nat)))
   (first|((with_reducible refine HKS.out _ ?_);(repeat' (first|with_reducible assumption|with_reducible refine Chg.set2 ?_ (by exact rfl) _ _|with_reducible apply Chg.drew|with_reducible refine Chg.alloc ?_ _|with_reducible exact Chg.refl _ _));done)|fail)
   (first
    | (go_at_call 94;(with_reducible refine (CH.out _).mono ?_);rintro e w7 ⟨⟨sa,rfl,hsa⟩,hb⟩;(try have hyw8:=below_then3' (a:=w8) (by (repeat' (first|with_reducible assumption|with_reducible refine Below.drew ?_|with_reducible refine Below.alloc ?_ (by first|omega|exact Nat.le_refl _|(simp;omega)) _|with_reducible exact Below.refl _ _))) hb);have hxw7:=below_then3' (a:=w1) (by (repeat' (first|with_reducible assumption|with_reducible refine Below.drew ?_|with_reducible refine Below.alloc ?_ (by first|omega|exact Nat.le_refl _|(simp;omega)) _|with_reducible exact Below.refl _ _))) hb;have hsw7:=hxw7.size;have hzw7:Chg (fun k=>k=w.heap.size+1) w1 w7:=Chg.of_below hxw7;have HSA:=Lib.hid hsa;have hs_sa:=hsa.2;(try have hadd:¬ 9223372036854775807 < sa.size+sb.size:=by omega);clear hsa;clear hb)
    | (go_at_call 94;(with_reducible refine (CL.out _).mono ?_);rintro e w8 ⟨⟨sb,rfl,hsb⟩,hb⟩;(try have hyw7:=below_then3' (a:=w7) (by (repeat' (first|with_reducible assumption|with_reducible refine Below.drew ?_|with_reducible refine Below.alloc ?_ (by first|omega|exact Nat.le_refl _|(simp;omega)) _|with_reducible exact Below.refl _ _))) hb);have hxw8:=below_then3' (a:=w1) (by (repeat' (first|with_reducible assumption|with_reducible refine Below.drew ?_|with_reducible refine Below.alloc ?_ (by first|omega|exact Nat.le_refl _|(simp;omega)) _|with_reducible exact Below.refl _ _))) hb;have hsw8:=hxw8.size;have hzw8:Chg (fun k=>k=w.heap.size+1) w1 w8:=Chg.of_below hxw8;have HSB:=Lib.hid hsb;have hs_sb:=hsb.2;(try have hadd:¬ 9223372036854775807 < sa.size+sb.size:=by omega);clear hsb;clear hb)
    | (go_at_call 78;(with_reducible refine (str25_calls _ _).mono ?_);rintro e w9 ⟨rfl,hb⟩;(try have hyw7:=below_then3' (a:=w7) (by (repeat' (first|with_reducible assumption|with_reducible refine Below.drew ?_|with_reducible refine Below.alloc ?_ (by first|omega|exact Nat.le_refl _|(simp;omega)) _|with_reducible exact Below.refl _ _))) hb);(try have hyw8:=below_then3' (a:=w8) (by (repeat' (first|with_reducible assumption|with_reducible refine Below.drew ?_|with_reducible refine Below.alloc ?_ (by first|omega|exact Nat.le_refl _|(simp;omega)) _|with_reducible exact Below.refl _ _))) hb);have hxw9:=below_then3' (a:=w1) (by (repeat' (first|with_reducible assumption|with_reducible refine Below.drew ?_|with_reducible refine Below.alloc ?_ (by first|omega|exact Nat.le_refl _|(simp;omega)) _|with_reducible exact Below.refl _ _))) hb;have hsw9:=hxw9.size;have hzw9:Chg (fun k=>k=w.heap.size+1) w1 w9:=Chg.of_below hxw9;have hj9:=jv_str (fun _=>False) w9 (sa++sb) ((HSA.out.app HSB.out (k:=32) (by decide)).wh (by decide));have HJ9:=Lib.hid hj9;clear hj9;clear hb)
    | (go_at_call 79;(with_reducible refine (one25N (N:=12) (WhN.lit rfl (by decide) (by omega)) (HJ9.out)).mono ?_);rintro e w10 ⟨v10,rfl,hj,hb⟩;(try have hyw7:=below_then3' (a:=w7) (by (repeat' (first|with_reducible assumption|with_reducible refine Below.drew ?_|with_reducible refine Below.alloc ?_ (by first|omega|exact Nat.le_refl _|(simp;omega)) _|with_reducible exact Below.refl _ _))) hb);(try have hyw8:=below_then3' (a:=w8) (by (repeat' (first|with_reducible assumption|with_reducible refine Below.drew ?_|with_reducible refine Below.alloc ?_ (by first|omega|exact Nat.le_refl _|(simp;omega)) _|with_reducible exact Below.refl _ _))) hb);have hxw10:=below_then3' (a:=w1) (by (repeat' (first|with_reducible assumption|with_reducible refine Below.drew ?_|with_reducible refine Below.alloc ?_ (by first|omega|exact Nat.le_refl _|(simp;omega)) _|with_reducible exact Below.refl _ _))) hb;have hsw10:=hxw10.size;have hzw10:Chg (fun k=>k=w.heap.size+1) w1 w10:=Chg.of_below hxw10;have HJ:Hid (JV (fun k=>False∨w.heap.size+1+1≤k) (80 * t.wt) w10 v10):=Lib.hid (hj.imp (fun i _ h=>h.elim (fun h=>h.elim) (fun h=>.inr (by first|omega|(simp at h;omega)))) (by have:=HV.out;have h1:=HSA.out.2;have h2:=HSB.out.2;have h3:(sa++sb).size=sa.size+sb.size:=ByteArray.size_append;omega));have HXL:Hid (Below w1.heap.size w1 w10):=Lib.hid hxw10;clear hj;have hj:=HJ.out;obtain ⟨k9,x9,a9,n9,c9,j9,rfl,-⟩:=hj;(try clear c0 c1 c2 r0 r1 r2 l1);obtain ⟨c0,c1,c2,r0,r1,r2,l1⟩:=(HXA1.out.keep HXL.out).three;clear hb)
    | fail)
  all_goals
   have HBW:=Lib.hid (HBA1.out.trans (HXL.out.mono HBA1.out.size))
   go_wp2_with fail
   refine bodyPost_ret (v:=.agg (jCells k9 x9 a9 n9 c9)) (by simp [results,Tryz.results84,go_sem, *]) rfl ?_
   refine jo_fin (g:=w.heap.size+1) (S:=fun _=>False) (fun _ h=>h.elim) (by omega) HJ.out (Nat.le_refl _) HBW.out ?_
   iterate 3 (refine Chg.set2 ?_ (by exact rfl) _ _)
   exact Chg.refl _ _
end Go.Proofs.YtmooaepbdmengaaGreatDoor
