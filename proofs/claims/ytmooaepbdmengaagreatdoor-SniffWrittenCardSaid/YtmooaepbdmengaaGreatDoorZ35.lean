/- Parts of the proof of SniffWritten: JvI. -/
import Derived.Test.YtmooaepbdmengaaGreatDoorZ34
namespace Go.Proofs.YtmooaepbdmengaaGreatDoor
open Go.RowKit
set_option linter.unusedVariables false
set_option linter.unusedSimpArgs false
set_option maxRecDepth 100000 in
set_option maxHeartbeats 4000000 in
theorem value_6 (t:T) (ez:Bool) (w:World) (bits hi lo:Nat) (text more:ByteArray) (sub:Int) (ab:Option Addr) (nb cb:Nat) (ak:Option Addr) (nk ck:Nat) (hm:∀ W,Calls Tryz.prog 84 #[.agg (valCells 6 bits hi lo text more sub ab nb cb ak nk ck),.bool ez] W (JO (fun _=>False) (80 * t.wt) W)):Calls Tryz.prog 55 #[.agg (valCells 6 bits hi lo text more sub ab nb cb ak nk ck),.bool ez] w (JO (fun _=>False) (80 * t.wt) w):=by
 obtain ⟨wa,hwa⟩:∃ W,W=((w.alloc (.cells (valCells 6 bits hi lo text more sub ab nb cb ak nk ck) 26)).alloc (.cells (jCells 0 ⟨#[]⟩ none 0 0) 53)):=⟨_,rfl⟩
 have HBA:Hid (Below w.heap.size w wa):=Lib.hid (by rw [hwa];exact ((Below.refl _ _).alloc (Nat.le_refl _) _).alloc (by simp) _)
 have HXA:Hid (BoxJ3 wa (w.heap.size+1) z3j):=Lib.hid (by rw [hwa];exact BoxJ3.newG _ _ _ _ (by simp))
 have HBV:Hid (BoxV wa w.heap.size (valCells 6 bits hi lo text more sub ab nb cb ak nk ck)):=Lib.hid (by rw [hwa];exact (BoxV.new w _ _).keep ((Below.refl _ _).alloc (Nat.le_refl _) _))
 have hz2:w.heap.size+2≤wa.heap.size:=HXA.out.1
 have HM:=Lib.hid hm
 clear hm
 obtain ⟨f0,f1,f2,f3,f4,f5,f6,f7,f8,l0⟩:=HBV.out.nine
 go_enter Tryz.func55,Tryz.ntmps55
 go_upto_region 37 with fail
 rw [← hwa]
 clear hwa
 go_wp2_with fail
 refine (HM.out _).mono ?_
 rintro e w1 ⟨v1,rfl,hj,hb⟩
 have HBw1:=Lib.hid hb
 have HJ:Hid (JV (fun k=>False∨w.heap.size+1+1≤k) (80 * t.wt) w1 v1):=Lib.hid (hj.imp (fun i _ h=>h.elim (fun h=>h.elim) (fun h=>.inr (by omega))) (by omega))
 clear f0 f1 f2 f3 f4 f5 f6 f7 f8 l0
 clear hb
 have hj:=HJ.out
 obtain ⟨k9,x9,a9,n9,c9,j9,rfl,-⟩:=hj
 obtain ⟨c0,c1,c2,r0,r1,r2,l1⟩:=(HXA.out.keep HBw1.out).three
 have HBW:=Lib.hid (HBA.out.trans (HBw1.out.mono HBA.out.size))
 go_wp2_with fail
 refine bodyPost_ret (v:=.agg (jCells k9 x9 a9 n9 c9)) (by simp [results,Tryz.results55,go_sem, *]) rfl ?_
 refine jo_fin (g:=w.heap.size+1) (S:=fun _=>False) (fun _ h=>h.elim) (by omega) HJ.out (Nat.le_refl _) HBW.out ?_
 iterate 3 (refine Chg.set2 ?_ (by exact rfl) _ _)
 exact Chg.refl _ _
set_option maxRecDepth 100000 in
set_option maxHeartbeats 4000000 in
theorem value_8 (t:T) (ez:Bool) (w:World) (bits hi lo:Nat) (text more:ByteArray) (sub:Int) (ab:Option Addr) (nb cb:Nat) (ak:Option Addr) (nk ck:Nat) (hm:∀ W,Calls Tryz.prog 84 #[.agg (valCells 8 bits hi lo text more sub ab nb cb ak nk ck),.bool ez] W (JO (fun _=>False) (80 * t.wt) W)):Calls Tryz.prog 55 #[.agg (valCells 8 bits hi lo text more sub ab nb cb ak nk ck),.bool ez] w (JO (fun _=>False) (80 * t.wt) w):=by
 obtain ⟨wa,hwa⟩:∃ W,W=((w.alloc (.cells (valCells 8 bits hi lo text more sub ab nb cb ak nk ck) 26)).alloc (.cells (jCells 0 ⟨#[]⟩ none 0 0) 53)):=⟨_,rfl⟩
 have HBA:Hid (Below w.heap.size w wa):=Lib.hid (by rw [hwa];exact ((Below.refl _ _).alloc (Nat.le_refl _) _).alloc (by simp) _)
 have HXA:Hid (BoxJ3 wa (w.heap.size+1) z3j):=Lib.hid (by rw [hwa];exact BoxJ3.newG _ _ _ _ (by simp))
 have HBV:Hid (BoxV wa w.heap.size (valCells 8 bits hi lo text more sub ab nb cb ak nk ck)):=Lib.hid (by rw [hwa];exact (BoxV.new w _ _).keep ((Below.refl _ _).alloc (Nat.le_refl _) _))
 have hz2:w.heap.size+2≤wa.heap.size:=HXA.out.1
 have HM:=Lib.hid hm
 clear hm
 obtain ⟨f0,f1,f2,f3,f4,f5,f6,f7,f8,l0⟩:=HBV.out.nine
 go_enter Tryz.func55,Tryz.ntmps55
 go_upto_region 37 with fail
 rw [← hwa]
 clear hwa
 go_wp2_with fail
 refine (HM.out _).mono ?_
 rintro e w1 ⟨v1,rfl,hj,hb⟩
 have HBw1:=Lib.hid hb
 have HJ:Hid (JV (fun k=>False∨w.heap.size+1+1≤k) (80 * t.wt) w1 v1):=Lib.hid (hj.imp (fun i _ h=>h.elim (fun h=>h.elim) (fun h=>.inr (by omega))) (by omega))
 clear f0 f1 f2 f3 f4 f5 f6 f7 f8 l0
 clear hb
 have hj:=HJ.out
 obtain ⟨k9,x9,a9,n9,c9,j9,rfl,-⟩:=hj
 obtain ⟨c0,c1,c2,r0,r1,r2,l1⟩:=(HXA.out.keep HBw1.out).three
 have HBW:=Lib.hid (HBA.out.trans (HBw1.out.mono HBA.out.size))
 go_wp2_with fail
 refine bodyPost_ret (v:=.agg (jCells k9 x9 a9 n9 c9)) (by simp [results,Tryz.results55,go_sem, *]) rfl ?_
 refine jo_fin (g:=w.heap.size+1) (S:=fun _=>False) (fun _ h=>h.elim) (by omega) HJ.out (Nat.le_refl _) HBW.out ?_
 iterate 3 (refine Chg.set2 ?_ (by exact rfl) _ _)
 exact Chg.refl _ _
set_option maxRecDepth 100000 in
set_option maxHeartbeats 4000000 in
theorem value_9 (t:T) (ez:Bool) (w:World) (bits hi lo:Nat) (text more:ByteArray) (sub:Int) (ab:Option Addr) (nb cb:Nat) (ak:Option Addr) (nk ck:Nat) (hm:∀ W,Calls Tryz.prog 84 #[.agg (valCells 9 bits hi lo text more sub ab nb cb ak nk ck),.bool ez] W (JO (fun _=>False) (80 * t.wt) W)):Calls Tryz.prog 55 #[.agg (valCells 9 bits hi lo text more sub ab nb cb ak nk ck),.bool ez] w (JO (fun _=>False) (80 * t.wt) w):=by
 obtain ⟨wa,hwa⟩:∃ W,W=((w.alloc (.cells (valCells 9 bits hi lo text more sub ab nb cb ak nk ck) 26)).alloc (.cells (jCells 0 ⟨#[]⟩ none 0 0) 53)):=⟨_,rfl⟩
 have HBA:Hid (Below w.heap.size w wa):=Lib.hid (by rw [hwa];exact ((Below.refl _ _).alloc (Nat.le_refl _) _).alloc (by simp) _)
 have HXA:Hid (BoxJ3 wa (w.heap.size+1) z3j):=Lib.hid (by rw [hwa];exact BoxJ3.newG _ _ _ _ (by simp))
 have HBV:Hid (BoxV wa w.heap.size (valCells 9 bits hi lo text more sub ab nb cb ak nk ck)):=Lib.hid (by rw [hwa];exact (BoxV.new w _ _).keep ((Below.refl _ _).alloc (Nat.le_refl _) _))
 have hz2:w.heap.size+2≤wa.heap.size:=HXA.out.1
 have HM:=Lib.hid hm
 clear hm
 obtain ⟨f0,f1,f2,f3,f4,f5,f6,f7,f8,l0⟩:=HBV.out.nine
 go_enter Tryz.func55,Tryz.ntmps55
 go_upto_region 37 with fail
 rw [← hwa]
 clear hwa
 go_wp2_with fail
 refine (HM.out _).mono ?_
 rintro e w1 ⟨v1,rfl,hj,hb⟩
 have HBw1:=Lib.hid hb
 have HJ:Hid (JV (fun k=>False∨w.heap.size+1+1≤k) (80 * t.wt) w1 v1):=Lib.hid (hj.imp (fun i _ h=>h.elim (fun h=>h.elim) (fun h=>.inr (by omega))) (by omega))
 clear f0 f1 f2 f3 f4 f5 f6 f7 f8 l0
 clear hb
 have hj:=HJ.out
 obtain ⟨k9,x9,a9,n9,c9,j9,rfl,-⟩:=hj
 obtain ⟨c0,c1,c2,r0,r1,r2,l1⟩:=(HXA.out.keep HBw1.out).three
 have HBW:=Lib.hid (HBA.out.trans (HBw1.out.mono HBA.out.size))
 go_wp2_with fail
 refine bodyPost_ret (v:=.agg (jCells k9 x9 a9 n9 c9)) (by simp [results,Tryz.results55,go_sem, *]) rfl ?_
 refine jo_fin (g:=w.heap.size+1) (S:=fun _=>False) (fun _ h=>h.elim) (by omega) HJ.out (Nat.le_refl _) HBW.out ?_
 iterate 3 (refine Chg.set2 ?_ (by exact rfl) _ _)
 exact Chg.refl _ _
set_option maxRecDepth 100000 in
set_option maxHeartbeats 4000000 in
theorem value_10 (t:T) (ez:Bool) (w:World) (bits hi lo:Nat) (text more:ByteArray) (sub:Int) (ab:Option Addr) (nb cb:Nat) (ak:Option Addr) (nk ck:Nat) (hm:∀ W,Calls Tryz.prog 84 #[.agg (valCells 10 bits hi lo text more sub ab nb cb ak nk ck),.bool ez] W (JO (fun _=>False) (80 * t.wt) W)):Calls Tryz.prog 55 #[.agg (valCells 10 bits hi lo text more sub ab nb cb ak nk ck),.bool ez] w (JO (fun _=>False) (80 * t.wt) w):=by
 obtain ⟨wa,hwa⟩:∃ W,W=((w.alloc (.cells (valCells 10 bits hi lo text more sub ab nb cb ak nk ck) 26)).alloc (.cells (jCells 0 ⟨#[]⟩ none 0 0) 53)):=⟨_,rfl⟩
 have HBA:Hid (Below w.heap.size w wa):=Lib.hid (by rw [hwa];exact ((Below.refl _ _).alloc (Nat.le_refl _) _).alloc (by simp) _)
 have HXA:Hid (BoxJ3 wa (w.heap.size+1) z3j):=Lib.hid (by rw [hwa];exact BoxJ3.newG _ _ _ _ (by simp))
 have HBV:Hid (BoxV wa w.heap.size (valCells 10 bits hi lo text more sub ab nb cb ak nk ck)):=Lib.hid (by rw [hwa];exact (BoxV.new w _ _).keep ((Below.refl _ _).alloc (Nat.le_refl _) _))
 have hz2:w.heap.size+2≤wa.heap.size:=HXA.out.1
 have HM:=Lib.hid hm
 clear hm
 obtain ⟨f0,f1,f2,f3,f4,f5,f6,f7,f8,l0⟩:=HBV.out.nine
 go_enter Tryz.func55,Tryz.ntmps55
 go_upto_region 37 with fail
 rw [← hwa]
 clear hwa
 go_wp2_with fail
 refine (HM.out _).mono ?_
 rintro e w1 ⟨v1,rfl,hj,hb⟩
 have HBw1:=Lib.hid hb
 have HJ:Hid (JV (fun k=>False∨w.heap.size+1+1≤k) (80 * t.wt) w1 v1):=Lib.hid (hj.imp (fun i _ h=>h.elim (fun h=>h.elim) (fun h=>.inr (by omega))) (by omega))
 clear f0 f1 f2 f3 f4 f5 f6 f7 f8 l0
 clear hb
 have hj:=HJ.out
 obtain ⟨k9,x9,a9,n9,c9,j9,rfl,-⟩:=hj
 obtain ⟨c0,c1,c2,r0,r1,r2,l1⟩:=(HXA.out.keep HBw1.out).three
 have HBW:=Lib.hid (HBA.out.trans (HBw1.out.mono HBA.out.size))
 go_wp2_with fail
 refine bodyPost_ret (v:=.agg (jCells k9 x9 a9 n9 c9)) (by simp [results,Tryz.results55,go_sem, *]) rfl ?_
 refine jo_fin (g:=w.heap.size+1) (S:=fun _=>False) (fun _ h=>h.elim) (by omega) HJ.out (Nat.le_refl _) HBW.out ?_
 iterate 3 (refine Chg.set2 ?_ (by exact rfl) _ _)
 exact Chg.refl _ _
set_option maxRecDepth 100000 in
set_option maxHeartbeats 4000000 in
theorem value_16 (t:T) (ez:Bool) (w:World) (bits hi lo:Nat) (text more:ByteArray) (sub:Int) (ab:Option Addr) (nb cb:Nat) (ak:Option Addr) (nk ck:Nat) (hm:∀ W,Calls Tryz.prog 84 #[.agg (valCells 16 bits hi lo text more sub ab nb cb ak nk ck),.bool ez] W (JO (fun _=>False) (80 * t.wt) W)):Calls Tryz.prog 55 #[.agg (valCells 16 bits hi lo text more sub ab nb cb ak nk ck),.bool ez] w (JO (fun _=>False) (80 * t.wt) w):=by
 obtain ⟨wa,hwa⟩:∃ W,W=((w.alloc (.cells (valCells 16 bits hi lo text more sub ab nb cb ak nk ck) 26)).alloc (.cells (jCells 0 ⟨#[]⟩ none 0 0) 53)):=⟨_,rfl⟩
 have HBA:Hid (Below w.heap.size w wa):=Lib.hid (by rw [hwa];exact ((Below.refl _ _).alloc (Nat.le_refl _) _).alloc (by simp) _)
 have HXA:Hid (BoxJ3 wa (w.heap.size+1) z3j):=Lib.hid (by rw [hwa];exact BoxJ3.newG _ _ _ _ (by simp))
 have HBV:Hid (BoxV wa w.heap.size (valCells 16 bits hi lo text more sub ab nb cb ak nk ck)):=Lib.hid (by rw [hwa];exact (BoxV.new w _ _).keep ((Below.refl _ _).alloc (Nat.le_refl _) _))
 have hz2:w.heap.size+2≤wa.heap.size:=HXA.out.1
 have HM:=Lib.hid hm
 clear hm
 obtain ⟨f0,f1,f2,f3,f4,f5,f6,f7,f8,l0⟩:=HBV.out.nine
 go_enter Tryz.func55,Tryz.ntmps55
 go_upto_region 37 with fail
 rw [← hwa]
 clear hwa
 go_wp2_with fail
 refine (HM.out _).mono ?_
 rintro e w1 ⟨v1,rfl,hj,hb⟩
 have HBw1:=Lib.hid hb
 have HJ:Hid (JV (fun k=>False∨w.heap.size+1+1≤k) (80 * t.wt) w1 v1):=Lib.hid (hj.imp (fun i _ h=>h.elim (fun h=>h.elim) (fun h=>.inr (by omega))) (by omega))
 clear f0 f1 f2 f3 f4 f5 f6 f7 f8 l0
 clear hb
 have hj:=HJ.out
 obtain ⟨k9,x9,a9,n9,c9,j9,rfl,-⟩:=hj
 obtain ⟨c0,c1,c2,r0,r1,r2,l1⟩:=(HXA.out.keep HBw1.out).three
 have HBW:=Lib.hid (HBA.out.trans (HBw1.out.mono HBA.out.size))
 go_wp2_with fail
 refine bodyPost_ret (v:=.agg (jCells k9 x9 a9 n9 c9)) (by simp [results,Tryz.results55,go_sem, *]) rfl ?_
 refine jo_fin (g:=w.heap.size+1) (S:=fun _=>False) (fun _ h=>h.elim) (by omega) HJ.out (Nat.le_refl _) HBW.out ?_
 iterate 3 (refine Chg.set2 ?_ (by exact rfl) _ _)
 exact Chg.refl _ _
set_option maxRecDepth 100000 in
set_option maxHeartbeats 4000000 in
theorem value_18 (t:T) (ez:Bool) (w:World) (bits hi lo:Nat) (text more:ByteArray) (sub:Int) (ab:Option Addr) (nb cb:Nat) (ak:Option Addr) (nk ck:Nat) (hm:∀ W,Calls Tryz.prog 84 #[.agg (valCells 18 bits hi lo text more sub ab nb cb ak nk ck),.bool ez] W (JO (fun _=>False) (80 * t.wt) W)):Calls Tryz.prog 55 #[.agg (valCells 18 bits hi lo text more sub ab nb cb ak nk ck),.bool ez] w (JO (fun _=>False) (80 * t.wt) w):=by
 obtain ⟨wa,hwa⟩:∃ W,W=((w.alloc (.cells (valCells 18 bits hi lo text more sub ab nb cb ak nk ck) 26)).alloc (.cells (jCells 0 ⟨#[]⟩ none 0 0) 53)):=⟨_,rfl⟩
 have HBA:Hid (Below w.heap.size w wa):=Lib.hid (by rw [hwa];exact ((Below.refl _ _).alloc (Nat.le_refl _) _).alloc (by simp) _)
 have HXA:Hid (BoxJ3 wa (w.heap.size+1) z3j):=Lib.hid (by rw [hwa];exact BoxJ3.newG _ _ _ _ (by simp))
 have HBV:Hid (BoxV wa w.heap.size (valCells 18 bits hi lo text more sub ab nb cb ak nk ck)):=Lib.hid (by rw [hwa];exact (BoxV.new w _ _).keep ((Below.refl _ _).alloc (Nat.le_refl _) _))
 have hz2:w.heap.size+2≤wa.heap.size:=HXA.out.1
 have HM:=Lib.hid hm
 clear hm
 obtain ⟨f0,f1,f2,f3,f4,f5,f6,f7,f8,l0⟩:=HBV.out.nine
 go_enter Tryz.func55,Tryz.ntmps55
 go_upto_region 37 with fail
 rw [← hwa]
 clear hwa
 go_wp2_with fail
 refine (HM.out _).mono ?_
 rintro e w1 ⟨v1,rfl,hj,hb⟩
 have HBw1:=Lib.hid hb
 have HJ:Hid (JV (fun k=>False∨w.heap.size+1+1≤k) (80 * t.wt) w1 v1):=Lib.hid (hj.imp (fun i _ h=>h.elim (fun h=>h.elim) (fun h=>.inr (by omega))) (by omega))
 clear f0 f1 f2 f3 f4 f5 f6 f7 f8 l0
 clear hb
 have hj:=HJ.out
 obtain ⟨k9,x9,a9,n9,c9,j9,rfl,-⟩:=hj
 obtain ⟨c0,c1,c2,r0,r1,r2,l1⟩:=(HXA.out.keep HBw1.out).three
 have HBW:=Lib.hid (HBA.out.trans (HBw1.out.mono HBA.out.size))
 go_wp2_with fail
 refine bodyPost_ret (v:=.agg (jCells k9 x9 a9 n9 c9)) (by simp [results,Tryz.results55,go_sem, *]) rfl ?_
 refine jo_fin (g:=w.heap.size+1) (S:=fun _=>False) (fun _ h=>h.elim) (by omega) HJ.out (Nat.le_refl _) HBW.out ?_
 iterate 3 (refine Chg.set2 ?_ (by exact rfl) _ _)
 exact Chg.refl _ _
set_option maxRecDepth 100000 in
set_option maxHeartbeats 4000000 in
theorem value_19 (t:T) (ez:Bool) (w:World) (bits hi lo:Nat) (text more:ByteArray) (sub:Int) (ab:Option Addr) (nb cb:Nat) (ak:Option Addr) (nk ck:Nat) (hm:∀ W,Calls Tryz.prog 84 #[.agg (valCells 19 bits hi lo text more sub ab nb cb ak nk ck),.bool ez] W (JO (fun _=>False) (80 * t.wt) W)):Calls Tryz.prog 55 #[.agg (valCells 19 bits hi lo text more sub ab nb cb ak nk ck),.bool ez] w (JO (fun _=>False) (80 * t.wt) w):=by
 obtain ⟨wa,hwa⟩:∃ W,W=((w.alloc (.cells (valCells 19 bits hi lo text more sub ab nb cb ak nk ck) 26)).alloc (.cells (jCells 0 ⟨#[]⟩ none 0 0) 53)):=⟨_,rfl⟩
 have HBA:Hid (Below w.heap.size w wa):=Lib.hid (by rw [hwa];exact ((Below.refl _ _).alloc (Nat.le_refl _) _).alloc (by simp) _)
 have HXA:Hid (BoxJ3 wa (w.heap.size+1) z3j):=Lib.hid (by rw [hwa];exact BoxJ3.newG _ _ _ _ (by simp))
 have HBV:Hid (BoxV wa w.heap.size (valCells 19 bits hi lo text more sub ab nb cb ak nk ck)):=Lib.hid (by rw [hwa];exact (BoxV.new w _ _).keep ((Below.refl _ _).alloc (Nat.le_refl _) _))
 have hz2:w.heap.size+2≤wa.heap.size:=HXA.out.1
 have HM:=Lib.hid hm
 clear hm
 obtain ⟨f0,f1,f2,f3,f4,f5,f6,f7,f8,l0⟩:=HBV.out.nine
 go_enter Tryz.func55,Tryz.ntmps55
 go_upto_region 37 with fail
 rw [← hwa]
 clear hwa
 go_wp2_with fail
 refine (HM.out _).mono ?_
 rintro e w1 ⟨v1,rfl,hj,hb⟩
 have HBw1:=Lib.hid hb
 have HJ:Hid (JV (fun k=>False∨w.heap.size+1+1≤k) (80 * t.wt) w1 v1):=Lib.hid (hj.imp (fun i _ h=>h.elim (fun h=>h.elim) (fun h=>.inr (by omega))) (by omega))
 clear f0 f1 f2 f3 f4 f5 f6 f7 f8 l0
 clear hb
 have hj:=HJ.out
 obtain ⟨k9,x9,a9,n9,c9,j9,rfl,-⟩:=hj
 obtain ⟨c0,c1,c2,r0,r1,r2,l1⟩:=(HXA.out.keep HBw1.out).three
 have HBW:=Lib.hid (HBA.out.trans (HBw1.out.mono HBA.out.size))
 go_wp2_with fail
 refine bodyPost_ret (v:=.agg (jCells k9 x9 a9 n9 c9)) (by simp [results,Tryz.results55,go_sem, *]) rfl ?_
 refine jo_fin (g:=w.heap.size+1) (S:=fun _=>False) (fun _ h=>h.elim) (by omega) HJ.out (Nat.le_refl _) HBW.out ?_
 iterate 3 (refine Chg.set2 ?_ (by exact rfl) _ _)
 exact Chg.refl _ _
set_option maxRecDepth 100000 in
set_option maxHeartbeats 4000000 in
theorem value_127 (t:T) (ez:Bool) (w:World) (bits hi lo:Nat) (text more:ByteArray) (sub:Int) (ab:Option Addr) (nb cb:Nat) (ak:Option Addr) (nk ck:Nat) (hm:∀ W,Calls Tryz.prog 84 #[.agg (valCells 127 bits hi lo text more sub ab nb cb ak nk ck),.bool ez] W (JO (fun _=>False) (80 * t.wt) W)):Calls Tryz.prog 55 #[.agg (valCells 127 bits hi lo text more sub ab nb cb ak nk ck),.bool ez] w (JO (fun _=>False) (80 * t.wt) w):=by
 obtain ⟨wa,hwa⟩:∃ W,W=((w.alloc (.cells (valCells 127 bits hi lo text more sub ab nb cb ak nk ck) 26)).alloc (.cells (jCells 0 ⟨#[]⟩ none 0 0) 53)):=⟨_,rfl⟩
 have HBA:Hid (Below w.heap.size w wa):=Lib.hid (by rw [hwa];exact ((Below.refl _ _).alloc (Nat.le_refl _) _).alloc (by simp) _)
 have HXA:Hid (BoxJ3 wa (w.heap.size+1) z3j):=Lib.hid (by rw [hwa];exact BoxJ3.newG _ _ _ _ (by simp))
 have HBV:Hid (BoxV wa w.heap.size (valCells 127 bits hi lo text more sub ab nb cb ak nk ck)):=Lib.hid (by rw [hwa];exact (BoxV.new w _ _).keep ((Below.refl _ _).alloc (Nat.le_refl _) _))
 have hz2:w.heap.size+2≤wa.heap.size:=HXA.out.1
 have HM:=Lib.hid hm
 clear hm
 obtain ⟨f0,f1,f2,f3,f4,f5,f6,f7,f8,l0⟩:=HBV.out.nine
 go_enter Tryz.func55,Tryz.ntmps55
 go_upto_region 37 with fail
 rw [← hwa]
 clear hwa
 go_wp2_with fail
 refine (HM.out _).mono ?_
 rintro e w1 ⟨v1,rfl,hj,hb⟩
 have HBw1:=Lib.hid hb
 have HJ:Hid (JV (fun k=>False∨w.heap.size+1+1≤k) (80 * t.wt) w1 v1):=Lib.hid (hj.imp (fun i _ h=>h.elim (fun h=>h.elim) (fun h=>.inr (by omega))) (by omega))
 clear f0 f1 f2 f3 f4 f5 f6 f7 f8 l0
 clear hb
 have hj:=HJ.out
 obtain ⟨k9,x9,a9,n9,c9,j9,rfl,-⟩:=hj
 obtain ⟨c0,c1,c2,r0,r1,r2,l1⟩:=(HXA.out.keep HBw1.out).three
 have HBW:=Lib.hid (HBA.out.trans (HBw1.out.mono HBA.out.size))
 go_wp2_with fail
 refine bodyPost_ret (v:=.agg (jCells k9 x9 a9 n9 c9)) (by simp [results,Tryz.results55,go_sem, *]) rfl ?_
 refine jo_fin (g:=w.heap.size+1) (S:=fun _=>False) (fun _ h=>h.elim) (by omega) HJ.out (Nat.le_refl _) HBW.out ?_
 iterate 3 (refine Chg.set2 ?_ (by exact rfl) _ _)
 exact Chg.refl _ _
set_option maxRecDepth 100000 in
set_option maxHeartbeats 4000000 in
theorem value_255 (t:T) (ez:Bool) (w:World) (bits hi lo:Nat) (text more:ByteArray) (sub:Int) (ab:Option Addr) (nb cb:Nat) (ak:Option Addr) (nk ck:Nat) (hm:∀ W,Calls Tryz.prog 84 #[.agg (valCells 255 bits hi lo text more sub ab nb cb ak nk ck),.bool ez] W (JO (fun _=>False) (80 * t.wt) W)):Calls Tryz.prog 55 #[.agg (valCells 255 bits hi lo text more sub ab nb cb ak nk ck),.bool ez] w (JO (fun _=>False) (80 * t.wt) w):=by
 obtain ⟨wa,hwa⟩:∃ W,W=((w.alloc (.cells (valCells 255 bits hi lo text more sub ab nb cb ak nk ck) 26)).alloc (.cells (jCells 0 ⟨#[]⟩ none 0 0) 53)):=⟨_,rfl⟩
 have HBA:Hid (Below w.heap.size w wa):=Lib.hid (by rw [hwa];exact ((Below.refl _ _).alloc (Nat.le_refl _) _).alloc (by simp) _)
 have HXA:Hid (BoxJ3 wa (w.heap.size+1) z3j):=Lib.hid (by rw [hwa];exact BoxJ3.newG _ _ _ _ (by simp))
 have HBV:Hid (BoxV wa w.heap.size (valCells 255 bits hi lo text more sub ab nb cb ak nk ck)):=Lib.hid (by rw [hwa];exact (BoxV.new w _ _).keep ((Below.refl _ _).alloc (Nat.le_refl _) _))
 have hz2:w.heap.size+2≤wa.heap.size:=HXA.out.1
 have HM:=Lib.hid hm
 clear hm
 obtain ⟨f0,f1,f2,f3,f4,f5,f6,f7,f8,l0⟩:=HBV.out.nine
 go_enter Tryz.func55,Tryz.ntmps55
 go_upto_region 37 with fail
 rw [← hwa]
 clear hwa
 go_wp2_with fail
 refine (HM.out _).mono ?_
 rintro e w1 ⟨v1,rfl,hj,hb⟩
 have HBw1:=Lib.hid hb
 have HJ:Hid (JV (fun k=>False∨w.heap.size+1+1≤k) (80 * t.wt) w1 v1):=Lib.hid (hj.imp (fun i _ h=>h.elim (fun h=>h.elim) (fun h=>.inr (by omega))) (by omega))
 clear f0 f1 f2 f3 f4 f5 f6 f7 f8 l0
 clear hb
 have hj:=HJ.out
 obtain ⟨k9,x9,a9,n9,c9,j9,rfl,-⟩:=hj
 obtain ⟨c0,c1,c2,r0,r1,r2,l1⟩:=(HXA.out.keep HBw1.out).three
 have HBW:=Lib.hid (HBA.out.trans (HBw1.out.mono HBA.out.size))
 go_wp2_with fail
 refine bodyPost_ret (v:=.agg (jCells k9 x9 a9 n9 c9)) (by simp [results,Tryz.results55,go_sem, *]) rfl ?_
 refine jo_fin (g:=w.heap.size+1) (S:=fun _=>False) (fun _ h=>h.elim) (by omega) HJ.out (Nat.le_refl _) HBW.out ?_
 iterate 3 (refine Chg.set2 ?_ (by exact rfl) _ _)
 exact Chg.refl _ _
end Go.Proofs.YtmooaepbdmengaaGreatDoor
