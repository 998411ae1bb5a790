/- Parts of the proof of SniffWritten: JvG. -/
import Derived.Test.YtmooaepbdmengaaGreatDoorZ34
namespace Go.Proofs.YtmooaepbdmengaaGreatDoor
open Go.RowKit
set_option linter.unusedVariables false
set_option linter.unusedSimpArgs false
theorem AscS.szZ {n:Nat} {s:ByteArray} (h:AscS n s):s.size≤n:=h.2
theorem rd_newZ {w:World} {g n:Nat} {l:List UInt8} {t:TypeId} {fr:Nat × Nat} {C:Array Value} (hg:g=w.heap.size) (hn:l.length=n) (hm:n≤1000000) (hC:∀ i,i < n→C[i]?=some (.int .u8 (bAt l i:Nat))):RdB (w.alloc (.cells C t fr)) (some ⟨g,0,none⟩) n l:=by
 refine ⟨hn,by omega,fun i hi=>⟨g,0,rfl,?_⟩⟩
 rw [hg,Nat.zero_add,World.cell?_alloc_mark]
 exact hC i hi
theorem rd_one8 (W:World) (m:Nat) (hm:m≤255):RdB (W.alloc (.cells #[.int .u8 (m:Nat)] 5)) (some ⟨W.heap.size,0,none⟩) 1 [UInt8.ofNat m]:=by
 refine rd_newZ (g:=W.heap.size) rfl rfl (by omega) fun i hi=>?_
 have:i=0:=by omega
 subst this
 simp [bAt]
 omega
set_option maxRecDepth 100000 in
set_option maxHeartbeats 4000000 in
theorem value_5 (t:T) (ez:Bool) (w:World) (bits hi lo:Nat) (text more:ByteArray) (sub:Int) (ab:Option Addr) (nb cb:Nat) (ak:Option Addr) (nk ck:Nat) (m:Nat) (hsm:sub=(m:Nat)) (hm1:m≤255) (bs:List UInt8) (hbs:RdB w ab nb bs) (hw:bs.length+2≤t.wt) (h9:t.wt≤40000):Calls Tryz.prog 55 #[.agg (valCells 5 bits hi lo text more sub ab nb cb ak nk ck),.bool ez] w (JO (fun _=>False) (80 * t.wt) w):=by
 obtain ⟨wa,hwa⟩:∃ W,W=((w.alloc (.cells (valCells 5 bits hi lo text more sub ab nb cb ak nk ck) 26)).alloc (.cells (jCells 0 ⟨#[]⟩ none 0 0) 53)):=⟨_,rfl⟩
 have HBA:Hid (Below w.heap.size w wa):=Lib.hid (by rw [hwa];exact ((Below.refl _ _).alloc (Nat.le_refl _) _).alloc (by simp) _)
 have HXA:Hid (BoxJ3 wa (w.heap.size+1) z3j):=Lib.hid (by rw [hwa];exact BoxJ3.newG _ _ _ _ (by simp))
 have HBV:Hid (BoxV wa w.heap.size (valCells 5 bits hi lo text more sub ab nb cb ak nk ck)):=Lib.hid (by rw [hwa];exact (BoxV.new w _ _).keep ((Below.refl _ _).alloc (Nat.le_refl _) _))
 have hz2:w.heap.size+2≤wa.heap.size:=HXA.out.1
 subst hsm
 have HM:=Lib.hid hm1
 have m2:IntKind.u8.wrap (m:Int)=(m:Int):=by rw [IntKind.wrap_u8];omega
 have HR:=Lib.hid (hbs.keep HBA.out)
 have hnb:bs.length=nb:=hbs.1
 have HN:Hid (nb+2≤t.wt∧nb≤100000):=Lib.hid (by omega)
 have CB:Hid (∀ W,Below wa.heap.size wa W→Calls Tryz.prog 81 #[.slice ab nb cb] W (TxO (2 * nb+4) W)):=Lib.hid fun W h=>baseT_calls ab nb cb bs W (HR.out.keep h) HN.out.2
 have CX:Hid (∀ (W:World) (p:Addr),RdB W (some p) 1 [UInt8.ofNat m]→Calls Tryz.prog 82 #[.slice (some p) 1 1] W (TxO 2 W)):=Lib.hid fun W p h=>hexT_calls (some p) 1 1 _ W h (by decide)
 clear hbs hw h9 hnb hm1
 have hbw:Below wa.heap.size wa wa:=Below.refl _ _
 obtain ⟨f0,f1,f2,f3,f4,f5,f6,f7,f8,l0⟩:=HBV.out.nine
 go_enter Tryz.func55,Tryz.ntmps55
 go_upto_region 22 with fail
 rw [← hwa]
 clear hwa
 obtain ⟨c0,c1,c2,r0,r1,r2,l1⟩:=HXA.out.three
 have hZ:wa.cell? ⟨w.heap.size,6,none⟩=some (.int .i64 (m:Nat))∧wa.cell? ⟨w.heap.size,7,none⟩=some (.slice ab nb cb):=⟨f6,f7⟩
 have HZ:=Lib.hid hZ
 clear hZ
 have HKS:Hid (∀ W,Chg (fun k=>k=w.heap.size+1) wa W→(fun W=>Hid (Chg (fun k=>k=w.heap.size+1) wa W)∧W.cell? ⟨w.heap.size,6,none⟩=some (.int .i64 (m:Nat))∧W.cell? ⟨w.heap.size,7,none⟩=some (.slice ab nb cb)) W):=Lib.hid fun W h=>⟨Lib.hid h,⟨h.cell (by intro e;simp at e) HZ.out.1,h.cell (by intro e;simp at e) HZ.out.2⟩⟩
 clear HZ
 go_region_held3 (fun W=>Hid (Chg (fun k=>k=w.heap.size+1) wa W)∧W.cell? ⟨w.heap.size,6,none⟩=some (.int .i64 (m:Nat))∧W.cell? ⟨w.heap.size,7,none⟩=some (.slice ab nb cb))
  (first|((with_reducible refine HKS.out _ ?_);(repeat' (first|with_reducible assumption|with_reducible refine Chg.set2 ?_ (by exact rfl) _ _|with_reducible apply Chg.drew|with_reducible refine Chg.alloc ?_ _|with_reducible exact Chg.refl _ _));done)|fail)
  (first
   | (go_at_call 81;(with_reducible refine (CB.out _ ?_).mono ?_);(case _=>(repeat' (first|with_reducible assumption|with_reducible refine Below.drew ?_|with_reducible exact Below.refl _ _|with_reducible refine Below.alloc ?_ (by first|omega|exact Nat.le_refl _|(simp;omega)) _|with_reducible refine below_then3' ?_ HYw7.out|with_reducible refine below_then3' ?_ HYw8.out|with_reducible refine below_then3' ?_ HYw9.out|with_reducible refine below_then3' ?_ HYw10.out|with_reducible refine below_then3' ?_ HYw11.out|with_reducible refine below_then3' ?_ HYw12.out)));rintro e w7 ⟨⟨sa,rfl,hsa⟩,hb⟩;have HYw7:=Lib.hid hb;have hxw7:=below_then3' (a:=wa) (by (repeat' (first|with_reducible assumption|with_reducible refine Below.drew ?_|with_reducible exact Below.refl _ _|with_reducible refine Below.alloc ?_ (by first|omega|exact Nat.le_refl _|(simp;omega)) _|with_reducible refine below_then3' ?_ HYw7.out|with_reducible refine below_then3' ?_ HYw8.out|with_reducible refine below_then3' ?_ HYw9.out|with_reducible refine below_then3' ?_ HYw10.out|with_reducible refine below_then3' ?_ HYw11.out|with_reducible refine below_then3' ?_ HYw12.out))) hb;have hsw7:=hxw7.size;have hzw7:Chg (fun k=>k=w.heap.size+1) wa w7:=Chg.of_below hxw7;have HSA:=Lib.hid hsa;clear hsa;clear hb)
   | (go_at_call 82;(with_reducible refine (CX.out _ _ ?_).mono ?_);(case _=>(with_reducible refine RdB.keep (rd_one8 _ m HM.out) ?_);(repeat' (first|with_reducible assumption|with_reducible refine Below.drew ?_|with_reducible exact Below.refl _ _|with_reducible refine Below.alloc ?_ (by first|omega|exact Nat.le_refl _|(simp;omega)) _|with_reducible refine below_then3' ?_ HYw7.out|with_reducible refine below_then3' ?_ HYw8.out|with_reducible refine below_then3' ?_ HYw9.out|with_reducible refine below_then3' ?_ HYw10.out|with_reducible refine below_then3' ?_ HYw11.out|with_reducible refine below_then3' ?_ HYw12.out)));rintro e w8 ⟨⟨sb,rfl,hsb⟩,hb⟩;have HYw8:=Lib.hid hb;have hxw8:=below_then3' (a:=wa) (by (repeat' (first|with_reducible assumption|with_reducible refine Below.drew ?_|with_reducible exact Below.refl _ _|with_reducible refine Below.alloc ?_ (by first|omega|exact Nat.le_refl _|(simp;omega)) _|with_reducible refine below_then3' ?_ HYw7.out|with_reducible refine below_then3' ?_ HYw8.out|with_reducible refine below_then3' ?_ HYw9.out|with_reducible refine below_then3' ?_ HYw10.out|with_reducible refine below_then3' ?_ HYw11.out|with_reducible refine below_then3' ?_ HYw12.out))) hb;have hsw8:=hxw8.size;have hzw8:Chg (fun k=>k=w.heap.size+1) wa w8:=Chg.of_below hxw8;have HSB:=Lib.hid hsb;clear hsb;clear hb)
   | (go_at_call 78;(with_reducible refine (str25_calls sa _).mono ?_);rintro e w9 ⟨rfl,hb⟩;have HYw9:=Lib.hid hb;have hxw9:=below_then3' (a:=wa) (by (repeat' (first|with_reducible assumption|with_reducible refine Below.drew ?_|with_reducible exact Below.refl _ _|with_reducible refine Below.alloc ?_ (by first|omega|exact Nat.le_refl _|(simp;omega)) _|with_reducible refine below_then3' ?_ HYw7.out|with_reducible refine below_then3' ?_ HYw8.out|with_reducible refine below_then3' ?_ HYw9.out|with_reducible refine below_then3' ?_ HYw10.out|with_reducible refine below_then3' ?_ HYw11.out|with_reducible refine below_then3' ?_ HYw12.out))) hb;have hsw9:=hxw9.size;have hzw9:Chg (fun k=>k=w.heap.size+1) wa w9:=Chg.of_below hxw9;clear hb)
   | (go_at_call 78;(with_reducible refine (str25_calls sb _).mono ?_);rintro e w10 ⟨rfl,hb⟩;have HYw10:=Lib.hid hb;have hxw10:=below_then3' (a:=wa) (by (repeat' (first|with_reducible assumption|with_reducible refine Below.drew ?_|with_reducible exact Below.refl _ _|with_reducible refine Below.alloc ?_ (by first|omega|exact Nat.le_refl _|(simp;omega)) _|with_reducible refine below_then3' ?_ HYw7.out|with_reducible refine below_then3' ?_ HYw8.out|with_reducible refine below_then3' ?_ HYw9.out|with_reducible refine below_then3' ?_ HYw10.out|with_reducible refine below_then3' ?_ HYw11.out|with_reducible refine below_then3' ?_ HYw12.out))) hb;have hsw10:=hxw10.size;have hzw10:Chg (fun k=>k=w.heap.size+1) wa w10:=Chg.of_below hxw10;clear hb)
   | (go_at_call 80;(with_reducible refine (two25N (N:=6) (M:=7) (WhN.lit rfl (by decide) (by omega)) (WhN.lit rfl (by decide) (by omega)) (jv_str (fun _=>False) _ sa (HSA.out.wh (by have:=HN.out.2;omega))) (jv_str (fun _=>False) _ sb (HSB.out.wh (by omega)))).mono ?_);rintro e w11 ⟨v8,rfl,hj,hb⟩;have HYw11:=Lib.hid hb;have hxw11:=below_then3' (a:=wa) (by (repeat' (first|with_reducible assumption|with_reducible refine Below.drew ?_|with_reducible exact Below.refl _ _|with_reducible refine Below.alloc ?_ (by first|omega|exact Nat.le_refl _|(simp;omega)) _|with_reducible refine below_then3' ?_ HYw7.out|with_reducible refine below_then3' ?_ HYw8.out|with_reducible refine below_then3' ?_ HYw9.out|with_reducible refine below_then3' ?_ HYw10.out|with_reducible refine below_then3' ?_ HYw11.out|with_reducible refine below_then3' ?_ HYw12.out))) hb;have hsw11:=hxw11.size;have hzw11:Chg (fun k=>k=w.heap.size+1) wa w11:=Chg.of_below hxw11;have HJv8:=Lib.hid (hj.imp (S':=fun k=>wa.heap.size≤k) (fun i _ h=>(by rcases h with h|h<;>first|exact False.elim h|exact h|omega|(simp at h;omega))) (Nat.le_refl _));clear hj;clear hb)
   | (go_at_call 79;(with_reducible refine (one25N (N:=7) (WhN.lit rfl (by decide) (by omega)) HJv8.out).mono ?_);rintro e w12 ⟨v9,rfl,hj,hb⟩;have HYw12:=Lib.hid hb;have hxw12:=below_then3' (a:=wa) (by (repeat' (first|with_reducible assumption|with_reducible refine Below.drew ?_|with_reducible exact Below.refl _ _|with_reducible refine Below.alloc ?_ (by first|omega|exact Nat.le_refl _|(simp;omega)) _|with_reducible refine below_then3' ?_ HYw7.out|with_reducible refine below_then3' ?_ HYw8.out|with_reducible refine below_then3' ?_ HYw9.out|with_reducible refine below_then3' ?_ HYw10.out|with_reducible refine below_then3' ?_ HYw11.out|with_reducible refine below_then3' ?_ HYw12.out))) hb;have hsw12:=hxw12.size;have hzw12:Chg (fun k=>k=w.heap.size+1) wa w12:=Chg.of_below hxw12;have HJ:Hid (JV (fun k=>False∨w.heap.size+1+1≤k) (80 * t.wt) w12 v9):=Lib.hid (hj.imp (fun i _ h=>.inr (by rcases h with h|h<;>first|exact False.elim h|exact h|omega|(simp at h;omega))) (by have:=HN.out.1;have:=HSA.out.szZ;have:=HSB.out.szZ;omega));have HXL:Hid (Below wa.heap.size wa w12):=Lib.hid hxw12;clear hj;have hj:=HJ.out;obtain ⟨k9,x9,a9,n9,c9,j9,rfl,-⟩:=hj;(try clear c0 c1 c2 r0 r1 r2 l1);obtain ⟨c0,c1,c2,r0,r1,r2,l1⟩:=(HXA.out.keep HXL.out).three;clear hb)
   | fail)
 all_goals
  have HBW:=Lib.hid (HBA.out.trans (HXL.out.mono HBA.out.size))
  go_wp2_with fail
  refine bodyPost_ret (v:=.agg (jCells k9 x9 a9 n9 c9)) (by simp [results,Tryz.results55,go_sem, *]) rfl ?_
  refine jo_fin (g:=w.heap.size+1) (S:=fun _=>False) (fun _ h=>h.elim) (by omega) HJ.out (Nat.le_refl _) HBW.out ?_
  iterate 3 (refine Chg.set2 ?_ (by exact rfl) _ _)
  exact Chg.refl _ _
set_option maxRecDepth 100000 in
set_option maxHeartbeats 4000000 in
theorem value_11 (t:T) (ez:Bool) (w:World) (bits hi lo:Nat) (text more:ByteArray) (sub:Int) (ab:Option Addr) (nb cb:Nat) (ak:Option Addr) (nk ck:Nat) (hw:text.size+more.size+2≤t.wt) (ht:Wh text) (ht2:Wh more):Calls Tryz.prog 55 #[.agg (valCells 11 bits hi lo text more sub ab nb cb ak nk ck),.bool ez] w (JO (fun _=>False) (80 * t.wt) w):=by
 obtain ⟨wa,hwa⟩:∃ W,W=((w.alloc (.cells (valCells 11 bits hi lo text more sub ab nb cb ak nk ck) 26)).alloc (.cells (jCells 0 ⟨#[]⟩ none 0 0) 53)):=⟨_,rfl⟩
 have HBA:Hid (Below w.heap.size w wa):=Lib.hid (by rw [hwa];exact ((Below.refl _ _).alloc (Nat.le_refl _) _).alloc (by simp) _)
 have HXA:Hid (BoxJ3 wa (w.heap.size+1) z3j):=Lib.hid (by rw [hwa];exact BoxJ3.newG _ _ _ _ (by simp))
 have HBV:Hid (BoxV wa w.heap.size (valCells 11 bits hi lo text more sub ab nb cb ak nk ck)):=Lib.hid (by rw [hwa];exact (BoxV.new w _ _).keep ((Below.refl _ _).alloc (Nat.le_refl _) _))
 have hz2:w.heap.size+2≤wa.heap.size:=HXA.out.1
 have HT:=Lib.hid ht
 have HT2:=Lib.hid ht2
 have HV:=Lib.hid hw
 clear ht ht2 hw
 have hbw:Below wa.heap.size wa wa:=Below.refl _ _
 obtain ⟨f0,f1,f2,f3,f4,f5,f6,f7,f8,l0⟩:=HBV.out.nine
 go_enter Tryz.func55,Tryz.ntmps55
 go_upto_region 26 with fail
 rw [← hwa]
 clear hwa
 obtain ⟨c0,c1,c2,r0,r1,r2,l1⟩:=HXA.out.three
 have hZ:wa.cell? ⟨w.heap.size,4,none⟩=some (.string text)∧wa.cell? ⟨w.heap.size,5,none⟩=some (.string more):=⟨f4,f5⟩
 have HZ:=Lib.hid hZ
 clear hZ
 have HKS:Hid (∀ W,Chg (fun k=>k=w.heap.size+1) wa W→(fun W=>Hid (Chg (fun k=>k=w.heap.size+1) wa W)∧W.cell? ⟨w.heap.size,4,none⟩=some (.string text)∧W.cell? ⟨w.heap.size,5,none⟩=some (.string more)) W):=Lib.hid fun W h=>⟨Lib.hid h,⟨h.cell (by intro e;simp at e) HZ.out.1,h.cell (by intro e;simp at e) HZ.out.2⟩⟩
 clear HZ
 go_region_held3 (fun W=>Hid (Chg (fun k=>k=w.heap.size+1) wa W)∧W.cell? ⟨w.heap.size,4,none⟩=some (.string text)∧W.cell? ⟨w.heap.size,5,none⟩=some (.string more))
  (first|((with_reducible refine HKS.out _ ?_);(repeat' (first|with_reducible assumption|with_reducible refine Chg.set2 ?_ (by exact rfl) _ _|with_reducible apply Chg.drew|with_reducible refine Chg.alloc ?_ _|with_reducible exact Chg.refl _ _));done)|fail)
  (first
   | (go_at_call 78;(with_reducible refine (str25_calls text _).mono ?_);rintro e w7 ⟨rfl,hb⟩;have HYw7:=Lib.hid hb;have hxw7:=below_then3' (a:=wa) (by (repeat' (first|with_reducible assumption|with_reducible refine Below.drew ?_|with_reducible exact Below.refl _ _|with_reducible refine Below.alloc ?_ (by first|omega|exact Nat.le_refl _|(simp;omega)) _|with_reducible refine below_then3' ?_ HYw7.out|with_reducible refine below_then3' ?_ HYw8.out|with_reducible refine below_then3' ?_ HYw9.out|with_reducible refine below_then3' ?_ HYw10.out|with_reducible refine below_then3' ?_ HYw11.out|with_reducible refine below_then3' ?_ HYw12.out))) hb;have hsw7:=hxw7.size;have hzw7:Chg (fun k=>k=w.heap.size+1) wa w7:=Chg.of_below hxw7;clear hb)
   | (go_at_call 78;(with_reducible refine (str25_calls more _).mono ?_);rintro e w8 ⟨rfl,hb⟩;have HYw8:=Lib.hid hb;have hxw8:=below_then3' (a:=wa) (by (repeat' (first|with_reducible assumption|with_reducible refine Below.drew ?_|with_reducible exact Below.refl _ _|with_reducible refine Below.alloc ?_ (by first|omega|exact Nat.le_refl _|(simp;omega)) _|with_reducible refine below_then3' ?_ HYw7.out|with_reducible refine below_then3' ?_ HYw8.out|with_reducible refine below_then3' ?_ HYw9.out|with_reducible refine below_then3' ?_ HYw10.out|with_reducible refine below_then3' ?_ HYw11.out|with_reducible refine below_then3' ?_ HYw12.out))) hb;have hsw8:=hxw8.size;have hzw8:Chg (fun k=>k=w.heap.size+1) wa w8:=Chg.of_below hxw8;clear hb)
   | (go_at_call 80;(with_reducible refine (two25N (N:=7) (M:=7) (WhN.lit rfl (by decide) (by omega)) (WhN.lit rfl (by decide) (by omega)) (jv_str (fun _=>False) _ text HT.out) (jv_str (fun _=>False) _ more HT2.out)).mono ?_);rintro e w9 ⟨v8,rfl,hj,hb⟩;have HYw9:=Lib.hid hb;have hxw9:=below_then3' (a:=wa) (by (repeat' (first|with_reducible assumption|with_reducible refine Below.drew ?_|with_reducible exact Below.refl _ _|with_reducible refine Below.alloc ?_ (by first|omega|exact Nat.le_refl _|(simp;omega)) _|with_reducible refine below_then3' ?_ HYw7.out|with_reducible refine below_then3' ?_ HYw8.out|with_reducible refine below_then3' ?_ HYw9.out|with_reducible refine below_then3' ?_ HYw10.out|with_reducible refine below_then3' ?_ HYw11.out|with_reducible refine below_then3' ?_ HYw12.out))) hb;have hsw9:=hxw9.size;have hzw9:Chg (fun k=>k=w.heap.size+1) wa w9:=Chg.of_below hxw9;have HJv8:=Lib.hid (hj.imp (S':=fun k=>wa.heap.size≤k) (fun i _ h=>(by rcases h with h|h<;>first|exact False.elim h|exact h|omega|(simp at h;omega))) (Nat.le_refl _));clear hj;clear hb)
   | (go_at_call 79;(with_reducible refine (one25N (N:=18) (WhN.lit rfl (by decide) (by omega)) HJv8.out).mono ?_);rintro e w10 ⟨v9,rfl,hj,hb⟩;have HYw10:=Lib.hid hb;have hxw10:=below_then3' (a:=wa) (by (repeat' (first|with_reducible assumption|with_reducible refine Below.drew ?_|with_reducible exact Below.refl _ _|with_reducible refine Below.alloc ?_ (by first|omega|exact Nat.le_refl _|(simp;omega)) _|with_reducible refine below_then3' ?_ HYw7.out|with_reducible refine below_then3' ?_ HYw8.out|with_reducible refine below_then3' ?_ HYw9.out|with_reducible refine below_then3' ?_ HYw10.out|with_reducible refine below_then3' ?_ HYw11.out|with_reducible refine below_then3' ?_ HYw12.out))) hb;have hsw10:=hxw10.size;have hzw10:Chg (fun k=>k=w.heap.size+1) wa w10:=Chg.of_below hxw10;have HJ:Hid (JV (fun k=>False∨w.heap.size+1+1≤k) (80 * t.wt) w10 v9):=Lib.hid (hj.imp (fun i _ h=>.inr (by rcases h with h|h<;>first|exact False.elim h|exact h|omega|(simp at h;omega))) (by have:=HV.out;omega));have HXL:Hid (Below wa.heap.size wa w10):=Lib.hid hxw10;clear hj;have hj:=HJ.out;obtain ⟨k9,x9,a9,n9,c9,j9,rfl,-⟩:=hj;(try clear c0 c1 c2 r0 r1 r2 l1);obtain ⟨c0,c1,c2,r0,r1,r2,l1⟩:=(HXA.out.keep HXL.out).three;clear hb)
   | fail)
 all_goals
  have HBW:=Lib.hid (HBA.out.trans (HXL.out.mono HBA.out.size))
  go_wp2_with fail
  refine bodyPost_ret (v:=.agg (jCells k9 x9 a9 n9 c9)) (by simp [results,Tryz.results55,go_sem, *]) rfl ?_
  refine jo_fin (g:=w.heap.size+1) (S:=fun _=>False) (fun _ h=>h.elim) (by omega) HJ.out (Nat.le_refl _) HBW.out ?_
  iterate 3 (refine Chg.set2 ?_ (by exact rfl) _ _)
  exact Chg.refl _ _
set_option maxRecDepth 100000 in
set_option maxHeartbeats 4000000 in
theorem value_12 (t:T) (ez:Bool) (w:World) (bits hi lo:Nat) (text more:ByteArray) (sub:Int) (ab:Option Addr) (nb cb:Nat) (ak:Option Addr) (nk ck:Nat) (bs:List UInt8) (hbs:RdB w ab nb bs) (hw:text.size+bs.length+2≤t.wt) (ht:Wh text) (h9:t.wt≤40000):Calls Tryz.prog 55 #[.agg (valCells 12 bits hi lo text more sub ab nb cb ak nk ck),.bool ez] w (JO (fun _=>False) (80 * t.wt) w):=by
 obtain ⟨wa,hwa⟩:∃ W,W=((w.alloc (.cells (valCells 12 bits hi lo text more sub ab nb cb ak nk ck) 26)).alloc (.cells (jCells 0 ⟨#[]⟩ none 0 0) 53)):=⟨_,rfl⟩
 have HBA:Hid (Below w.heap.size w wa):=Lib.hid (by rw [hwa];exact ((Below.refl _ _).alloc (Nat.le_refl _) _).alloc (by simp) _)
 have HXA:Hid (BoxJ3 wa (w.heap.size+1) z3j):=Lib.hid (by rw [hwa];exact BoxJ3.newG _ _ _ _ (by simp))
 have HBV:Hid (BoxV wa w.heap.size (valCells 12 bits hi lo text more sub ab nb cb ak nk ck)):=Lib.hid (by rw [hwa];exact (BoxV.new w _ _).keep ((Below.refl _ _).alloc (Nat.le_refl _) _))
 have hz2:w.heap.size+2≤wa.heap.size:=HXA.out.1
 have HT:=Lib.hid ht
 have HR:=Lib.hid (hbs.keep HBA.out)
 have hnb:bs.length=nb:=hbs.1
 have HN:Hid (text.size+nb+2≤t.wt∧nb≤100000):=Lib.hid (by omega)
 have CX:Hid (∀ W,Below wa.heap.size wa W→Calls Tryz.prog 82 #[.slice ab nb cb] W (TxO (2 * nb) W)):=Lib.hid fun W h=>hexT_calls ab nb cb bs W (HR.out.keep h) HN.out.2
 clear hbs hw h9 hnb ht
 have hbw:Below wa.heap.size wa wa:=Below.refl _ _
 obtain ⟨f0,f1,f2,f3,f4,f5,f6,f7,f8,l0⟩:=HBV.out.nine
 go_enter Tryz.func55,Tryz.ntmps55
 go_upto_region 28 with fail
 rw [← hwa]
 clear hwa
 obtain ⟨c0,c1,c2,r0,r1,r2,l1⟩:=HXA.out.three
 have hZ:wa.cell? ⟨w.heap.size,4,none⟩=some (.string text)∧wa.cell? ⟨w.heap.size,7,none⟩=some (.slice ab nb cb):=⟨f4,f7⟩
 have HZ:=Lib.hid hZ
 clear hZ
 have HKS:Hid (∀ W,Chg (fun k=>k=w.heap.size+1) wa W→(fun W=>Hid (Chg (fun k=>k=w.heap.size+1) wa W)∧W.cell? ⟨w.heap.size,4,none⟩=some (.string text)∧W.cell? ⟨w.heap.size,7,none⟩=some (.slice ab nb cb)) W):=Lib.hid fun W h=>⟨Lib.hid h,⟨h.cell (by intro e;simp at e) HZ.out.1,h.cell (by intro e;simp at e) HZ.out.2⟩⟩
 clear HZ
 go_region_held3 (fun W=>Hid (Chg (fun k=>k=w.heap.size+1) wa W)∧W.cell? ⟨w.heap.size,4,none⟩=some (.string text)∧W.cell? ⟨w.heap.size,7,none⟩=some (.slice ab nb cb))
  (first|((with_reducible refine HKS.out _ ?_);(repeat' (first|with_reducible assumption|with_reducible refine Chg.set2 ?_ (by exact rfl) _ _|with_reducible apply Chg.drew|with_reducible refine Chg.alloc ?_ _|with_reducible exact Chg.refl _ _));done)|fail)
  (first
   | (go_at_call 78;(with_reducible refine (str25_calls text _).mono ?_);rintro e w7 ⟨rfl,hb⟩;have HYw7:=Lib.hid hb;have hxw7:=below_then3' (a:=wa) (by (repeat' (first|with_reducible assumption|with_reducible refine Below.drew ?_|with_reducible exact Below.refl _ _|with_reducible refine Below.alloc ?_ (by first|omega|exact Nat.le_refl _|(simp;omega)) _|with_reducible refine below_then3' ?_ HYw7.out|with_reducible refine below_then3' ?_ HYw8.out|with_reducible refine below_then3' ?_ HYw9.out|with_reducible refine below_then3' ?_ HYw10.out|with_reducible refine below_then3' ?_ HYw11.out|with_reducible refine below_then3' ?_ HYw12.out))) hb;have hsw7:=hxw7.size;have hzw7:Chg (fun k=>k=w.heap.size+1) wa w7:=Chg.of_below hxw7;clear hb)
   | (go_at_call 82;(with_reducible refine (CX.out _ ?_).mono ?_);(case _=>(repeat' (first|with_reducible assumption|with_reducible refine Below.drew ?_|with_reducible exact Below.refl _ _|with_reducible refine Below.alloc ?_ (by first|omega|exact Nat.le_refl _|(simp;omega)) _|with_reducible refine below_then3' ?_ HYw7.out|with_reducible refine below_then3' ?_ HYw8.out|with_reducible refine below_then3' ?_ HYw9.out|with_reducible refine below_then3' ?_ HYw10.out|with_reducible refine below_then3' ?_ HYw11.out|with_reducible refine below_then3' ?_ HYw12.out)));rintro e w8 ⟨⟨sb,rfl,hsb⟩,hb⟩;have HYw8:=Lib.hid hb;have hxw8:=below_then3' (a:=wa) (by (repeat' (first|with_reducible assumption|with_reducible refine Below.drew ?_|with_reducible exact Below.refl _ _|with_reducible refine Below.alloc ?_ (by first|omega|exact Nat.le_refl _|(simp;omega)) _|with_reducible refine below_then3' ?_ HYw7.out|with_reducible refine below_then3' ?_ HYw8.out|with_reducible refine below_then3' ?_ HYw9.out|with_reducible refine below_then3' ?_ HYw10.out|with_reducible refine below_then3' ?_ HYw11.out|with_reducible refine below_then3' ?_ HYw12.out))) hb;have hsw8:=hxw8.size;have hzw8:Chg (fun k=>k=w.heap.size+1) wa w8:=Chg.of_below hxw8;have HSB:=Lib.hid hsb;clear hsb;clear hb)
   | (go_at_call 78;(with_reducible refine (str25_calls sb _).mono ?_);rintro e w9 ⟨rfl,hb⟩;have HYw9:=Lib.hid hb;have hxw9:=below_then3' (a:=wa) (by (repeat' (first|with_reducible assumption|with_reducible refine Below.drew ?_|with_reducible exact Below.refl _ _|with_reducible refine Below.alloc ?_ (by first|omega|exact Nat.le_refl _|(simp;omega)) _|with_reducible refine below_then3' ?_ HYw7.out|with_reducible refine below_then3' ?_ HYw8.out|with_reducible refine below_then3' ?_ HYw9.out|with_reducible refine below_then3' ?_ HYw10.out|with_reducible refine below_then3' ?_ HYw11.out|with_reducible refine below_then3' ?_ HYw12.out))) hb;have hsw9:=hxw9.size;have hzw9:Chg (fun k=>k=w.heap.size+1) wa w9:=Chg.of_below hxw9;clear hb)
   | (go_at_call 79;(with_reducible refine (one25N (N:=4) (nm:=⟨#[36,111,105,100]⟩) (WhN.lit rfl (by decide) (by omega)) (jv_str (fun _=>False) _ sb (HSB.out.wh (by have:=HN.out.2;omega)))).mono ?_);rintro e w10 ⟨v7,rfl,hj,hb⟩;have HYw10:=Lib.hid hb;have hxw10:=below_then3' (a:=wa) (by (repeat' (first|with_reducible assumption|with_reducible refine Below.drew ?_|with_reducible exact Below.refl _ _|with_reducible refine Below.alloc ?_ (by first|omega|exact Nat.le_refl _|(simp;omega)) _|with_reducible refine below_then3' ?_ HYw7.out|with_reducible refine below_then3' ?_ HYw8.out|with_reducible refine below_then3' ?_ HYw9.out|with_reducible refine below_then3' ?_ HYw10.out|with_reducible refine below_then3' ?_ HYw11.out|with_reducible refine below_then3' ?_ HYw12.out))) hb;have hsw10:=hxw10.size;have hzw10:Chg (fun k=>k=w.heap.size+1) wa w10:=Chg.of_below hxw10;have HJv7:=Lib.hid (hj.imp (S':=fun k=>wa.heap.size≤k) (fun i _ h=>(by rcases h with h|h<;>first|exact False.elim h|exact h|omega|(simp at h;omega))) (Nat.le_refl _));clear hj;have hj:=HJv7.out;obtain ⟨k7,x7,a7,n7,c7,j7,rfl,-⟩:=hj;clear hb)
   | (go_at_call 80;(with_reducible refine (two25N (N:=4) (M:=3) (WhN.lit rfl (by decide) (by omega)) (WhN.lit rfl (by decide) (by omega)) (jv_str (fun k=>wa.heap.size≤k) _ text HT.out) (HJv7.out.below ?_)).mono ?_);(case _=>(repeat' (first|with_reducible assumption|with_reducible refine Below.drew ?_|with_reducible exact Below.refl _ _|with_reducible refine Below.alloc ?_ (by first|omega|exact Nat.le_refl _|(simp;omega)) _|with_reducible refine below_then3' ?_ HYw7.out|with_reducible refine below_then3' ?_ HYw8.out|with_reducible refine below_then3' ?_ HYw9.out|with_reducible refine below_then3' ?_ HYw10.out|with_reducible refine below_then3' ?_ HYw11.out|with_reducible refine below_then3' ?_ HYw12.out)));rintro e w11 ⟨v8,rfl,hj,hb⟩;have HYw11:=Lib.hid hb;have hxw11:=below_then3' (a:=wa) (by (repeat' (first|with_reducible assumption|with_reducible refine Below.drew ?_|with_reducible exact Below.refl _ _|with_reducible refine Below.alloc ?_ (by first|omega|exact Nat.le_refl _|(simp;omega)) _|with_reducible refine below_then3' ?_ HYw7.out|with_reducible refine below_then3' ?_ HYw8.out|with_reducible refine below_then3' ?_ HYw9.out|with_reducible refine below_then3' ?_ HYw10.out|with_reducible refine below_then3' ?_ HYw11.out|with_reducible refine below_then3' ?_ HYw12.out))) hb;have hsw11:=hxw11.size;have hzw11:Chg (fun k=>k=w.heap.size+1) wa w11:=Chg.of_below hxw11;have HJv8:=Lib.hid (hj.imp (S':=fun k=>wa.heap.size≤k) (fun i _ h=>(by rcases h with h|h<;>first|exact False.elim h|exact h|omega|(simp at h;omega))) (Nat.le_refl _));clear hj;clear hb)
   | (go_at_call 79;(with_reducible refine (one25N (N:=10) (WhN.lit rfl (by decide) (by omega)) HJv8.out).mono ?_);rintro e w12 ⟨v9,rfl,hj,hb⟩;have HYw12:=Lib.hid hb;have hxw12:=below_then3' (a:=wa) (by (repeat' (first|with_reducible assumption|with_reducible refine Below.drew ?_|with_reducible exact Below.refl _ _|with_reducible refine Below.alloc ?_ (by first|omega|exact Nat.le_refl _|(simp;omega)) _|with_reducible refine below_then3' ?_ HYw7.out|with_reducible refine below_then3' ?_ HYw8.out|with_reducible refine below_then3' ?_ HYw9.out|with_reducible refine below_then3' ?_ HYw10.out|with_reducible refine below_then3' ?_ HYw11.out|with_reducible refine below_then3' ?_ HYw12.out))) hb;have hsw12:=hxw12.size;have hzw12:Chg (fun k=>k=w.heap.size+1) wa w12:=Chg.of_below hxw12;have HJ:Hid (JV (fun k=>False∨w.heap.size+1+1≤k) (80 * t.wt) w12 v9):=Lib.hid (hj.imp (fun i _ h=>.inr (by rcases h with h|h<;>first|exact False.elim h|exact h|omega|(simp at h;omega))) (by have:=HN.out.1;have:=HSB.out.szZ;omega));have HXL:Hid (Below wa.heap.size wa w12):=Lib.hid hxw12;clear hj;have hj:=HJ.out;obtain ⟨k9,x9,a9,n9,c9,j9,rfl,-⟩:=hj;(try clear c0 c1 c2 r0 r1 r2 l1);obtain ⟨c0,c1,c2,r0,r1,r2,l1⟩:=(HXA.out.keep HXL.out).three;clear hb)
   | fail)
 all_goals
  have HBW:=Lib.hid (HBA.out.trans (HXL.out.mono HBA.out.size))
  go_wp2_with fail
  refine bodyPost_ret (v:=.agg (jCells k9 x9 a9 n9 c9)) (by simp [results,Tryz.results55,go_sem, *]) rfl ?_
  refine jo_fin (g:=w.heap.size+1) (S:=fun _=>False) (fun _ h=>h.elim) (by omega) HJ.out (Nat.le_refl _) HBW.out ?_
  iterate 3 (refine Chg.set2 ?_ (by exact rfl) _ _)
  exact Chg.refl _ _
set_option maxRecDepth 100000 in
set_option maxHeartbeats 4000000 in
theorem value_15 (t:T) (ez:Bool) (w:World) (bits hi lo:Nat) (text more:ByteArray) (sub:Int) (ab:Option Addr) (nb cb:Nat) (ak:Option Addr) (nk ck:Nat) (f:F) (hm:∀ W,Below w.heap.size w W→Calls Tryz.prog 33 #[.slice ak nk ck,.bool ez] W (JO (fun _=>False) (2+80 * f.wt) W)) (hw:text.size+f.wt+2≤t.wt) (ht:Wh text):Calls Tryz.prog 55 #[.agg (valCells 15 bits hi lo text more sub ab nb cb ak nk ck),.bool ez] w (JO (fun _=>False) (80 * t.wt) w):=by
 obtain ⟨wa,hwa⟩:∃ W,W=((w.alloc (.cells (valCells 15 bits hi lo text more sub ab nb cb ak nk ck) 26)).alloc (.cells (jCells 0 ⟨#[]⟩ none 0 0) 53)):=⟨_,rfl⟩
 have HBA:Hid (Below w.heap.size w wa):=Lib.hid (by rw [hwa];exact ((Below.refl _ _).alloc (Nat.le_refl _) _).alloc (by simp) _)
 have HXA:Hid (BoxJ3 wa (w.heap.size+1) z3j):=Lib.hid (by rw [hwa];exact BoxJ3.newG _ _ _ _ (by simp))
 have HBV:Hid (BoxV wa w.heap.size (valCells 15 bits hi lo text more sub ab nb cb ak nk ck)):=Lib.hid (by rw [hwa];exact (BoxV.new w _ _).keep ((Below.refl _ _).alloc (Nat.le_refl _) _))
 have hz2:w.heap.size+2≤wa.heap.size:=HXA.out.1
 have HT:=Lib.hid ht
 have HV:=Lib.hid hw
 have CP:Hid (∀ W,Below wa.heap.size wa W→Calls Tryz.prog 33 #[.slice ak nk ck,.bool ez] W (JO (fun _=>False) (2+80 * f.wt) W)):=Lib.hid fun W h=>hm W (HBA.out.trans (h.mono HBA.out.size))
 clear hw ht hm
 have hbw:Below wa.heap.size wa wa:=Below.refl _ _
 obtain ⟨f0,f1,f2,f3,f4,f5,f6,f7,f8,l0⟩:=HBV.out.nine
 go_enter Tryz.func55,Tryz.ntmps55
 go_upto_region 34 with fail
 rw [← hwa]
 clear hwa
 obtain ⟨c0,c1,c2,r0,r1,r2,l1⟩:=HXA.out.three
 have hZ:wa.cell? ⟨w.heap.size,4,none⟩=some (.string text)∧wa.cell? ⟨w.heap.size,8,none⟩=some (.slice ak nk ck):=⟨f4,f8⟩
 have HZ:=Lib.hid hZ
 clear hZ
 have HKS:Hid (∀ W,Chg (fun k=>k=w.heap.size+1) wa W→(fun W=>Hid (Chg (fun k=>k=w.heap.size+1) wa W)∧W.cell? ⟨w.heap.size,4,none⟩=some (.string text)∧W.cell? ⟨w.heap.size,8,none⟩=some (.slice ak nk ck)) W):=Lib.hid fun W h=>⟨Lib.hid h,⟨h.cell (by intro e;simp at e) HZ.out.1,h.cell (by intro e;simp at e) HZ.out.2⟩⟩
 clear HZ
 go_region_held3 (fun W=>Hid (Chg (fun k=>k=w.heap.size+1) wa W)∧W.cell? ⟨w.heap.size,4,none⟩=some (.string text)∧W.cell? ⟨w.heap.size,8,none⟩=some (.slice ak nk ck))
  (first|((with_reducible refine HKS.out _ ?_);(repeat' (first|with_reducible assumption|with_reducible refine Chg.set2 ?_ (by exact rfl) _ _|with_reducible apply Chg.drew|with_reducible refine Chg.alloc ?_ _|with_reducible exact Chg.refl _ _));done)|fail)
  (first
   | (go_at_call 78;(with_reducible refine (str25_calls text _).mono ?_);rintro e w7 ⟨rfl,hb⟩;have HYw7:=Lib.hid hb;have hxw7:=below_then3' (a:=wa) (by (repeat' (first|with_reducible assumption|with_reducible refine Below.drew ?_|with_reducible exact Below.refl _ _|with_reducible refine Below.alloc ?_ (by first|omega|exact Nat.le_refl _|(simp;omega)) _|with_reducible refine below_then3' ?_ HYw7.out|with_reducible refine below_then3' ?_ HYw8.out|with_reducible refine below_then3' ?_ HYw9.out|with_reducible refine below_then3' ?_ HYw10.out|with_reducible refine below_then3' ?_ HYw11.out|with_reducible refine below_then3' ?_ HYw12.out))) hb;have hsw7:=hxw7.size;have hzw7:Chg (fun k=>k=w.heap.size+1) wa w7:=Chg.of_below hxw7;clear hb)
   | (go_at_call 33;(with_reducible refine (CP.out _ ?_).mono ?_);(case _=>(repeat' (first|with_reducible assumption|with_reducible refine Below.drew ?_|with_reducible exact Below.refl _ _|with_reducible refine Below.alloc ?_ (by first|omega|exact Nat.le_refl _|(simp;omega)) _|with_reducible refine below_then3' ?_ HYw7.out|with_reducible refine below_then3' ?_ HYw8.out|with_reducible refine below_then3' ?_ HYw9.out|with_reducible refine below_then3' ?_ HYw10.out|with_reducible refine below_then3' ?_ HYw11.out|with_reducible refine below_then3' ?_ HYw12.out)));rintro e w8 ⟨v7,rfl,hj,hb⟩;have HYw8:=Lib.hid hb;have hxw8:=below_then3' (a:=wa) (by (repeat' (first|with_reducible assumption|with_reducible refine Below.drew ?_|with_reducible exact Below.refl _ _|with_reducible refine Below.alloc ?_ (by first|omega|exact Nat.le_refl _|(simp;omega)) _|with_reducible refine below_then3' ?_ HYw7.out|with_reducible refine below_then3' ?_ HYw8.out|with_reducible refine below_then3' ?_ HYw9.out|with_reducible refine below_then3' ?_ HYw10.out|with_reducible refine below_then3' ?_ HYw11.out|with_reducible refine below_then3' ?_ HYw12.out))) hb;have hsw8:=hxw8.size;have hzw8:Chg (fun k=>k=w.heap.size+1) wa w8:=Chg.of_below hxw8;have HJv7:=Lib.hid (hj.imp (S':=fun k=>wa.heap.size≤k) (fun i _ h=>(by rcases h with h|h<;>first|exact False.elim h|exact h|omega|(simp at h;omega))) (Nat.le_refl _));clear hj;have hj:=HJv7.out;obtain ⟨k7,x7,a7,n7,c7,j7,rfl,-⟩:=hj;clear hb)
   | (go_at_call 80;(with_reducible refine (two25N (N:=5) (M:=6) (WhN.lit rfl (by decide) (by omega)) (WhN.lit rfl (by decide) (by omega)) (jv_str (fun k=>wa.heap.size≤k) _ text HT.out) (HJv7.out.below ?_)).mono ?_);(case _=>(repeat' (first|with_reducible assumption|with_reducible refine Below.drew ?_|with_reducible exact Below.refl _ _|with_reducible refine Below.alloc ?_ (by first|omega|exact Nat.le_refl _|(simp;omega)) _|with_reducible refine below_then3' ?_ HYw7.out|with_reducible refine below_then3' ?_ HYw8.out|with_reducible refine below_then3' ?_ HYw9.out|with_reducible refine below_then3' ?_ HYw10.out|with_reducible refine below_then3' ?_ HYw11.out|with_reducible refine below_then3' ?_ HYw12.out)));rintro e w9 ⟨v9,rfl,hj,hb⟩;have HYw9:=Lib.hid hb;have hxw9:=below_then3' (a:=wa) (by (repeat' (first|with_reducible assumption|with_reducible refine Below.drew ?_|with_reducible exact Below.refl _ _|with_reducible refine Below.alloc ?_ (by first|omega|exact Nat.le_refl _|(simp;omega)) _|with_reducible refine below_then3' ?_ HYw7.out|with_reducible refine below_then3' ?_ HYw8.out|with_reducible refine below_then3' ?_ HYw9.out|with_reducible refine below_then3' ?_ HYw10.out|with_reducible refine below_then3' ?_ HYw11.out|with_reducible refine below_then3' ?_ HYw12.out))) hb;have hsw9:=hxw9.size;have hzw9:Chg (fun k=>k=w.heap.size+1) wa w9:=Chg.of_below hxw9;have HJ:Hid (JV (fun k=>False∨w.heap.size+1+1≤k) (80 * t.wt) w9 v9):=Lib.hid (hj.imp (fun i _ h=>.inr (by rcases h with h|h<;>first|exact False.elim h|exact h|omega|(simp at h;omega))) (by have:=HV.out;omega));have HXL:Hid (Below wa.heap.size wa w9):=Lib.hid hxw9;clear hj;have hj:=HJ.out;obtain ⟨k9,x9,a9,n9,c9,j9,rfl,-⟩:=hj;(try clear c0 c1 c2 r0 r1 r2 l1);obtain ⟨c0,c1,c2,r0,r1,r2,l1⟩:=(HXA.out.keep HXL.out).three;clear hb)
   | fail)
 all_goals
  have HBW:=Lib.hid (HBA.out.trans (HXL.out.mono HBA.out.size))
  go_wp2_with fail
  refine bodyPost_ret (v:=.agg (jCells k9 x9 a9 n9 c9)) (by simp [results,Tryz.results55,go_sem, *]) rfl ?_
  refine jo_fin (g:=w.heap.size+1) (S:=fun _=>False) (fun _ h=>h.elim) (by omega) HJ.out (Nat.le_refl _) HBW.out ?_
  iterate 3 (refine Chg.set2 ?_ (by exact rfl) _ _)
  exact Chg.refl _ _
set_option maxRecDepth 100000 in
set_option maxHeartbeats 4000000 in
theorem value_17 (t:T) (ez:Bool) (w:World) (bits hi lo:Nat) (text more:ByteArray) (sub:Int) (ab:Option Addr) (nb cb:Nat) (ak:Option Addr) (nk ck:Nat) (h2:2≤t.wt) (hb9:bits < 18446744073709551616):Calls Tryz.prog 55 #[.agg (valCells 17 bits hi lo text more sub ab nb cb ak nk ck),.bool ez] w (JO (fun _=>False) (80 * t.wt) w):=by
 obtain ⟨wa,hwa⟩:∃ W,W=((w.alloc (.cells (valCells 17 bits hi lo text more sub ab nb cb ak nk ck) 26)).alloc (.cells (jCells 0 ⟨#[]⟩ none 0 0) 53)):=⟨_,rfl⟩
 have HBA:Hid (Below w.heap.size w wa):=Lib.hid (by rw [hwa];exact ((Below.refl _ _).alloc (Nat.le_refl _) _).alloc (by simp) _)
 have HXA:Hid (BoxJ3 wa (w.heap.size+1) z3j):=Lib.hid (by rw [hwa];exact BoxJ3.newG _ _ _ _ (by simp))
 have HBV:Hid (BoxV wa w.heap.size (valCells 17 bits hi lo text more sub ab nb cb ak nk ck)):=Lib.hid (by rw [hwa];exact (BoxV.new w _ _).keep ((Below.refl _ _).alloc (Nat.le_refl _) _))
 have hz2:w.heap.size+2≤wa.heap.size:=HXA.out.1
 have HV:=Lib.hid h2
 have q1:bits / 2 ^ 32=bits / 4294967296:=rfl
 obtain ⟨qh,hqh⟩:∃ q,q=bits / 4294967296:=⟨_,rfl⟩
 obtain ⟨ql,hql⟩:∃ q,q=bits % 4294967296:=⟨_,rfl⟩
 have e1:(bits:Int) / 4294967296=(qh:Int):=by omega
 have e2:(bits:Int) % 4294967296=(ql:Int):=by omega
 have e3:(bits:Int).tmod 4294967296=(ql:Int):=by rw [Int.tmod_eq_emod_of_nonneg (by omega)];exact e2
 have e4:(bits:Int) >>> (32:Nat)=(qh:Int):=by rw [Int.shiftRight_eq_div_pow];exact e1
 have e5:bits >>> 32=qh:=by rw [Nat.shiftRight_eq_div_pow,hqh]
 have e6:IntKind.u64.wrap (ql:Int)=(ql:Int):=by rw [IntKind.wrap_u64];omega
 have e7:IntKind.u64.wrap (qh:Int)=(qh:Int):=by rw [IntKind.wrap_u64];omega
 have CA:=Lib.hid (fun W=>digT_calls qh (by omega) W)
 have CB:=Lib.hid (fun W=>digT_calls ql (by omega) W)
 clear h2 hb9 hqh hql q1
 have hbw:Below wa.heap.size wa wa:=Below.refl _ _
 obtain ⟨f0,f1,f2,f3,f4,f5,f6,f7,f8,l0⟩:=HBV.out.nine
 go_enter Tryz.func55,Tryz.ntmps55
 go_upto_region 36 with fail
 rw [← hwa]
 clear hwa
 obtain ⟨c0,c1,c2,r0,r1,r2,l1⟩:=HXA.out.three
 have hZ:wa.cell? ⟨w.heap.size,1,none⟩=some (.int .u64 (bits:Nat)):=f1
 have HZ:=Lib.hid hZ
 clear hZ
 have HKS:Hid (∀ W,Chg (fun k=>k=w.heap.size+1) wa W→(fun W=>Hid (Chg (fun k=>k=w.heap.size+1) wa W)∧W.cell? ⟨w.heap.size,1,none⟩=some (.int .u64 (bits:Nat))) W):=Lib.hid fun W h=>⟨Lib.hid h,h.cell (by intro e;simp at e) HZ.out⟩
 clear HZ
 go_region_held3 (fun W=>Hid (Chg (fun k=>k=w.heap.size+1) wa W)∧W.cell? ⟨w.heap.size,1,none⟩=some (.int .u64 (bits:Nat)))
  (first|((with_reducible refine HKS.out _ ?_);(repeat' (first|with_reducible assumption|with_reducible refine Chg.set2 ?_ (by exact rfl) _ _|with_reducible apply Chg.drew|with_reducible refine Chg.alloc ?_ _|with_reducible exact Chg.refl _ _));done)|fail)
  (first
   | (go_at_call 83;(with_reducible refine (CA.out _).mono ?_);rintro e w7 ⟨⟨sa,rfl,hsa,hlsa⟩,hb⟩;have HYw7:=Lib.hid hb;have hxw7:=below_then3' (a:=wa) (by (repeat' (first|with_reducible assumption|with_reducible refine Below.drew ?_|with_reducible exact Below.refl _ _|with_reducible refine Below.alloc ?_ (by first|omega|exact Nat.le_refl _|(simp;omega)) _|with_reducible refine below_then3' ?_ HYw7.out|with_reducible refine below_then3' ?_ HYw8.out|with_reducible refine below_then3' ?_ HYw9.out|with_reducible refine below_then3' ?_ HYw10.out|with_reducible refine below_then3' ?_ HYw11.out|with_reducible refine below_then3' ?_ HYw12.out))) hb;have hsw7:=hxw7.size;have hzw7:Chg (fun k=>k=w.heap.size+1) wa w7:=Chg.of_below hxw7;have HSA:=Lib.hid hsa;have HLSA:=Lib.hid hlsa;clear hsa hlsa;clear hb)
   | (go_at_call 83;(with_reducible refine (CB.out _).mono ?_);rintro e w8 ⟨⟨sb,rfl,hsb,hlsb⟩,hb⟩;have HYw8:=Lib.hid hb;have hxw8:=below_then3' (a:=wa) (by (repeat' (first|with_reducible assumption|with_reducible refine Below.drew ?_|with_reducible exact Below.refl _ _|with_reducible refine Below.alloc ?_ (by first|omega|exact Nat.le_refl _|(simp;omega)) _|with_reducible refine below_then3' ?_ HYw7.out|with_reducible refine below_then3' ?_ HYw8.out|with_reducible refine below_then3' ?_ HYw9.out|with_reducible refine below_then3' ?_ HYw10.out|with_reducible refine below_then3' ?_ HYw11.out|with_reducible refine below_then3' ?_ HYw12.out))) hb;have hsw8:=hxw8.size;have hzw8:Chg (fun k=>k=w.heap.size+1) wa w8:=Chg.of_below hxw8;have HSB:=Lib.hid hsb;have HLSB:=Lib.hid hlsb;clear hsb hlsb;clear hb)
   | (go_at_call 75;(with_reducible refine (num25_calls sa _).mono ?_);rintro e w9 ⟨rfl,hb⟩;have HYw9:=Lib.hid hb;have hxw9:=below_then3' (a:=wa) (by (repeat' (first|with_reducible assumption|with_reducible refine Below.drew ?_|with_reducible exact Below.refl _ _|with_reducible refine Below.alloc ?_ (by first|omega|exact Nat.le_refl _|(simp;omega)) _|with_reducible refine below_then3' ?_ HYw7.out|with_reducible refine below_then3' ?_ HYw8.out|with_reducible refine below_then3' ?_ HYw9.out|with_reducible refine below_then3' ?_ HYw10.out|with_reducible refine below_then3' ?_ HYw11.out|with_reducible refine below_then3' ?_ HYw12.out))) hb;have hsw9:=hxw9.size;have hzw9:Chg (fun k=>k=w.heap.size+1) wa w9:=Chg.of_below hxw9;clear hb)
   | (go_at_call 75;(with_reducible refine (num25_calls sb _).mono ?_);rintro e w10 ⟨rfl,hb⟩;have HYw10:=Lib.hid hb;have hxw10:=below_then3' (a:=wa) (by (repeat' (first|with_reducible assumption|with_reducible refine Below.drew ?_|with_reducible exact Below.refl _ _|with_reducible refine Below.alloc ?_ (by first|omega|exact Nat.le_refl _|(simp;omega)) _|with_reducible refine below_then3' ?_ HYw7.out|with_reducible refine below_then3' ?_ HYw8.out|with_reducible refine below_then3' ?_ HYw9.out|with_reducible refine below_then3' ?_ HYw10.out|with_reducible refine below_then3' ?_ HYw11.out|with_reducible refine below_then3' ?_ HYw12.out))) hb;have hsw10:=hxw10.size;have hzw10:Chg (fun k=>k=w.heap.size+1) wa w10:=Chg.of_below hxw10;clear hb)
   | (go_at_call 80;(with_reducible refine (two25N (N:=1) (M:=1) (WhN.lit rfl (by decide) (by omega)) (WhN.lit rfl (by decide) (by omega)) (jv_num (fun _=>False) _ sa HLSA.out (by have:=HSA.out.szZ;omega)) (jv_num (fun _=>False) _ sb HLSB.out (by have:=HSB.out.szZ;omega))).mono ?_);rintro e w11 ⟨v8,rfl,hj,hb⟩;have HYw11:=Lib.hid hb;have hxw11:=below_then3' (a:=wa) (by (repeat' (first|with_reducible assumption|with_reducible refine Below.drew ?_|with_reducible exact Below.refl _ _|with_reducible refine Below.alloc ?_ (by first|omega|exact Nat.le_refl _|(simp;omega)) _|with_reducible refine below_then3' ?_ HYw7.out|with_reducible refine below_then3' ?_ HYw8.out|with_reducible refine below_then3' ?_ HYw9.out|with_reducible refine below_then3' ?_ HYw10.out|with_reducible refine below_then3' ?_ HYw11.out|with_reducible refine below_then3' ?_ HYw12.out))) hb;have hsw11:=hxw11.size;have hzw11:Chg (fun k=>k=w.heap.size+1) wa w11:=Chg.of_below hxw11;have HJv8:=Lib.hid (hj.imp (S':=fun k=>wa.heap.size≤k) (fun i _ h=>(by rcases h with h|h<;>first|exact False.elim h|exact h|omega|(simp at h;omega))) (Nat.le_refl _));clear hj;clear hb)
   | (go_at_call 79;(with_reducible refine (one25N (N:=10) (WhN.lit rfl (by decide) (by omega)) HJv8.out).mono ?_);rintro e w12 ⟨v9,rfl,hj,hb⟩;have HYw12:=Lib.hid hb;have hxw12:=below_then3' (a:=wa) (by (repeat' (first|with_reducible assumption|with_reducible refine Below.drew ?_|with_reducible exact Below.refl _ _|with_reducible refine Below.alloc ?_ (by first|omega|exact Nat.le_refl _|(simp;omega)) _|with_reducible refine below_then3' ?_ HYw7.out|with_reducible refine below_then3' ?_ HYw8.out|with_reducible refine below_then3' ?_ HYw9.out|with_reducible refine below_then3' ?_ HYw10.out|with_reducible refine below_then3' ?_ HYw11.out|with_reducible refine below_then3' ?_ HYw12.out))) hb;have hsw12:=hxw12.size;have hzw12:Chg (fun k=>k=w.heap.size+1) wa w12:=Chg.of_below hxw12;have HJ:Hid (JV (fun k=>False∨w.heap.size+1+1≤k) (80 * t.wt) w12 v9):=Lib.hid (hj.imp (fun i _ h=>.inr (by rcases h with h|h<;>first|exact False.elim h|exact h|omega|(simp at h;omega))) (by have:=HV.out;have:=HSA.out.szZ;have:=HSB.out.szZ;omega));have HXL:Hid (Below wa.heap.size wa w12):=Lib.hid hxw12;clear hj;have hj:=HJ.out;obtain ⟨k9,x9,a9,n9,c9,j9,rfl,-⟩:=hj;(try clear c0 c1 c2 r0 r1 r2 l1);obtain ⟨c0,c1,c2,r0,r1,r2,l1⟩:=(HXA.out.keep HXL.out).three;clear hb)
   | fail)
 all_goals
  have HBW:=Lib.hid (HBA.out.trans (HXL.out.mono HBA.out.size))
  go_wp2_with fail
  refine bodyPost_ret (v:=.agg (jCells k9 x9 a9 n9 c9)) (by simp [results,Tryz.results55,go_sem, *]) rfl ?_
  refine jo_fin (g:=w.heap.size+1) (S:=fun _=>False) (fun _ h=>h.elim) (by omega) HJ.out (Nat.le_refl _) HBW.out ?_
  iterate 3 (refine Chg.set2 ?_ (by exact rfl) _ _)
  exact Chg.refl _ _
end Go.Proofs.YtmooaepbdmengaaGreatDoor
