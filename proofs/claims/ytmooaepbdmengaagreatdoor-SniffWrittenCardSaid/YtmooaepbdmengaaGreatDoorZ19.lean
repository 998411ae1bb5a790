/- Parts of the proof of SniffWritten: MtD, MtE. -/
import Derived.Test.YtmooaepbdmengaaGreatDoorZ18
import Derived.Test.YtmooaepbdmengaaGreatDoorZ13
import Derived.Test.YtmooaepbdmengaaGreatDoorZ16
namespace Go.Proofs.YtmooaepbdmengaaGreatDoor
open Go.RowKit
set_option linter.unusedVariables false
set_option linter.unusedSimpArgs false
theorem own_none (w:World) (B:Nat) (hB:B≤w.heap.size):OwnB (w.alloc (.cells #[] 5)) B (.slice (some ⟨w.heap.size,0,none⟩) 0 0) []:=
 ⟨rfl,.inr ⟨w.heap.size,0,#[],rfl,hB,heap_alloc_new w _,Nat.le_refl _,by unfold maxLen;omega,rfl,rfl⟩⟩
theorem ext_of {S0:Nat→Prop} {w wa W:World} {u:Value} {l:List UInt8} (h:St wa u l W) (h2:w.heap.size+2≤wa.heap.size):∃ a c,u=.slice a l.length c∧Hid (RdBS (fun k=>S0 k∨w.heap.size+2≤k) W a l.length l)∧Hid (Roomy a l.length c):=by
 obtain ⟨a,c,h3,h4,h5⟩:=h.1.rdS
 exact ⟨a,c,h3,Lib.hid (h4.impZ (fun k hk=>.inr (by omega))),Lib.hid h5⟩
set_option maxRecDepth 100000 in
set_option maxHeartbeats 4000000 in
theorem mtem_9 (S0:Nat→Prop) (t:T) (w:World) (hS:∀ k,S0 k→k < w.heap.size) (bits hi lo:Nat) (text more:ByteArray) (sub:Int) (ab:Option Addr) (nb cb:Nat) (ak:Option Addr) (nk ck:Nat) (h2:2≤t.wt) (hb:bits < okSize):Calls Tryz.prog 43 #[.agg (valCells 9 bits hi lo text more sub ab nb cb ak nk ck)] w (MtOut S0 t w):=by
  have hTB:=two_boxes w (valCells 9 bits hi lo text more sub ab nb cb ak nk ck)
  obtain ⟨wa,hwa⟩:∃ W,W=((w.alloc (.cells (valCells 9 bits hi lo text more sub ab nb cb ak nk ck) 26)).alloc (.cells #[.int .i64 0,.int .u64 0,.slice none 0 0,.string ⟨#[]⟩,.slice none 0 0] 39)):=⟨_,rfl⟩
  have hTB:BoxI wa (w.heap.size+1) z5∧Below w.heap.size w wa:=by rw [hwa];exact hTB
  have hBV:BoxV wa w.heap.size (valCells 9 bits hi lo text more sub ab nb cb ak nk ck):=by rw [hwa];exact (BoxV.new w _ _).keep ((Below.refl _ _).alloc (Nat.le_refl _) _)
  have HTB:=Lib.hid hTB
  have HBV:=Lib.hid hBV
  have HS:=Lib.hid hS
  obtain ⟨T,hT⟩:∃ T:Nat,T=sortM 9:=⟨_,rfl⟩
  have HT9:Hid (T≤127):=Lib.hid (by rw [hT];decide)
  have HX:Hid (∀ (a:Option Addr) (n c:Nat) (W:World),Calls Tryz.prog 64 #[.int .i64 9,.slice a n c] W fun e w'=>e=.returned (.agg (itCells 10 T a n c ⟨#[]⟩ none 0 0))∧Below W.heap.size W w'):=Lib.hid fun a n c W=>by rw [hT];exact exted_calls 9 (by omega) a n c W
  clear hT
  have HKS:Hid (∀ W,Chg (fun k=>k=w.heap.size+1) wa W→Hid (Chg (fun k=>k=w.heap.size+1) wa W)∧W.cell? ⟨w.heap.size,0,none⟩=some (.int .i64 9)∧W.cell? ⟨w.heap.size,1,none⟩=some (.int .u64 (bits:Nat))):=Lib.hid fun W hW=>⟨Lib.hid hW,hW.cell (p:=⟨w.heap.size,0,none⟩) (fun e=>by have e2:w.heap.size=w.heap.size+1:=e;omega) (HBV.out.2 0 (by omega)).1,hW.cell (p:=⟨w.heap.size,1,none⟩) (fun e=>by have e2:w.heap.size=w.heap.size+1:=e;omega) (HBV.out.2 1 (by omega)).1⟩
  have hz2:w.heap.size+2≤wa.heap.size:=HTB.out.1.1
  have HP:=Lib.hid (fun W=>putHigh_calls bits 8 hb W)
  obtain ⟨l9,hl9⟩:∃ l,l=putHighS bits 8:=⟨_,rfl⟩
  have HLZ:Hid (l9.length=8):=Lib.hid (by rw [hl9];exact putHighS_len bits)
  rw [← hl9] at HP
  have HW:Hid (szM (extI T l9)+9≤20 * t.wt):=Lib.hid (by rw [sz_ext,HLZ.out];omega)
  clear hb hl9 h2
  clear hS hTB hBV
  go_enter Tryz.func43,Tryz.ntmps43
  go_upto_region 30 with fail
  rw [← hwa]
  clear hwa
  have hx0:Chg (fun k=>k=w.heap.size+1) wa wa:=Chg.refl _ _
  obtain ⟨-,f0,f1⟩:=HKS.out wa hx0
  have hbw:Below wa.heap.size wa wa:=Below.refl _ _
  go_region_held3 (fun W=>Hid (Chg (fun k=>k=w.heap.size+1) wa W)∧W.cell? ⟨w.heap.size,0,none⟩=some (.int .i64 9)∧W.cell? ⟨w.heap.size,1,none⟩=some (.int .u64 (bits:Nat))) (first|((with_reducible refine HKS.out _ ?_);(repeat' (first|with_reducible assumption|with_reducible refine Chg.set2 ?_ (by exact rfl) _ _|with_reducible apply Chg.drew|with_reducible refine Chg.alloc ?_ _|with_reducible exact Chg.refl _ _));done)|fail)
    ((first
      | (go_at_call 40;(with_reducible refine (HP.out _).mono ?_);rintro e w9 ⟨u9,rfl,ho,hb⟩;have hx9:=below_then3' (a:=wa) (by (repeat' (first|with_reducible assumption|with_reducible exact HSu7.out.bel|with_reducible exact HSu8.out.bel|with_reducible exact HSu9.out.bel|with_reducible refine Below.drew ?_|with_reducible refine Below.alloc ?_ (by first|omega|exact Nat.le_refl _|(simp;omega)) _|with_reducible exact Below.refl _ _))) hb;have hs9:=hx9.size;have hz9:Chg (fun k=>k=w.heap.size+1) wa w9:=Chg.of_below hx9;have HSu9:Hid (St wa u9 l9 w9):=Lib.hid ⟨ho.weaken (by first|omega|exact Nat.le_refl _|(simp;omega)),hx9⟩;obtain ⟨aZ,cZ,rfl,HRZ,HOZ⟩:=ext_of (S0:=S0) HSu9.out hz2;rw [HLZ.out] at HRZ HOZ ⊢;clear ho hb)
      | (go_at_call 64;(with_reducible refine (HX.out aZ 8 cZ _).mono ?_);rintro e w6 ⟨rfl,hb6⟩;have hx6:=below_then3' (a:=wa) (by (repeat' (first|with_reducible assumption|with_reducible exact HSu7.out.bel|with_reducible exact HSu8.out.bel|with_reducible exact HSu9.out.bel|with_reducible refine Below.drew ?_|with_reducible refine Below.alloc ?_ (by first|omega|exact Nat.le_refl _|(simp;omega)) _|with_reducible exact Below.refl _ _))) hb6;have hz6:Chg (fun k=>k=w.heap.size+1) wa w6:=Chg.of_below hx6;have HB6:=Lib.hid (HTB.out.2.trans (hx6.mono HTB.out.2.size));have HX6:=Lib.hid (HTB.out.1.keep hx6);have HI6:=Lib.hid (show RdIt (fun k=>S0 k∨w.heap.size+2≤k) w6 _ _ from rdit_ext T (by have:=HT9.out;omega) (HRZ.out.chgZ (below_then3' (a:=w9) (by (repeat' (first|with_reducible assumption|with_reducible exact HSu7.out.bel|with_reducible exact HSu8.out.bel|with_reducible exact HSu9.out.bel|with_reducible refine Below.drew ?_|with_reducible refine Below.alloc ?_ (by first|omega|exact Nat.le_refl _|(simp;omega)) _|with_reducible exact Below.refl _ _))) hb6)) HOZ.out);obtain ⟨p0,p1,p2,p3,p4,r0,r1,r2,r3,r4,r5⟩:=HX6.out.zs;clear hb6)
      | fail))
  all_goals
   go_wp2_with fail
   refine bodyPost_ret (v:=.agg (itCells 10 T aZ 8 cZ ⟨#[]⟩ none 0 0)) (by simp [results,Tryz.results43,go_sem, *]) rfl ?_
   refine mt_fin HS.out HI6.out (ok_ext T _ HT9.out) HW.out HB6.out ?_
   iterate 5 (refine Chg.set2 ?_ (by exact rfl) _ _)
   exact Chg.refl _ _
set_option maxRecDepth 100000 in
set_option maxHeartbeats 4000000 in
theorem mtem_17 (S0:Nat→Prop) (t:T) (w:World) (hS:∀ k,S0 k→k < w.heap.size) (bits hi lo:Nat) (text more:ByteArray) (sub:Int) (ab:Option Addr) (nb cb:Nat) (ak:Option Addr) (nk ck:Nat) (h2:2≤t.wt) (hb:bits < okSize):Calls Tryz.prog 43 #[.agg (valCells 17 bits hi lo text more sub ab nb cb ak nk ck)] w (MtOut S0 t w):=by
  have hTB:=two_boxes w (valCells 17 bits hi lo text more sub ab nb cb ak nk ck)
  obtain ⟨wa,hwa⟩:∃ W,W=((w.alloc (.cells (valCells 17 bits hi lo text more sub ab nb cb ak nk ck) 26)).alloc (.cells #[.int .i64 0,.int .u64 0,.slice none 0 0,.string ⟨#[]⟩,.slice none 0 0] 39)):=⟨_,rfl⟩
  have hTB:BoxI wa (w.heap.size+1) z5∧Below w.heap.size w wa:=by rw [hwa];exact hTB
  have hBV:BoxV wa w.heap.size (valCells 17 bits hi lo text more sub ab nb cb ak nk ck):=by rw [hwa];exact (BoxV.new w _ _).keep ((Below.refl _ _).alloc (Nat.le_refl _) _)
  have HTB:=Lib.hid hTB
  have HBV:=Lib.hid hBV
  have HS:=Lib.hid hS
  obtain ⟨T,hT⟩:∃ T:Nat,T=sortM 17:=⟨_,rfl⟩
  have HT9:Hid (T≤127):=Lib.hid (by rw [hT];decide)
  have HX:Hid (∀ (a:Option Addr) (n c:Nat) (W:World),Calls Tryz.prog 64 #[.int .i64 17,.slice a n c] W fun e w'=>e=.returned (.agg (itCells 10 T a n c ⟨#[]⟩ none 0 0))∧Below W.heap.size W w'):=Lib.hid fun a n c W=>by rw [hT];exact exted_calls 17 (by omega) a n c W
  clear hT
  have HKS:Hid (∀ W,Chg (fun k=>k=w.heap.size+1) wa W→Hid (Chg (fun k=>k=w.heap.size+1) wa W)∧W.cell? ⟨w.heap.size,0,none⟩=some (.int .i64 17)∧W.cell? ⟨w.heap.size,1,none⟩=some (.int .u64 (bits:Nat))):=Lib.hid fun W hW=>⟨Lib.hid hW,hW.cell (p:=⟨w.heap.size,0,none⟩) (fun e=>by have e2:w.heap.size=w.heap.size+1:=e;omega) (HBV.out.2 0 (by omega)).1,hW.cell (p:=⟨w.heap.size,1,none⟩) (fun e=>by have e2:w.heap.size=w.heap.size+1:=e;omega) (HBV.out.2 1 (by omega)).1⟩
  have hz2:w.heap.size+2≤wa.heap.size:=HTB.out.1.1
  have HP:=Lib.hid (fun W=>putHigh_calls bits 8 hb W)
  obtain ⟨l9,hl9⟩:∃ l,l=putHighS bits 8:=⟨_,rfl⟩
  have HLZ:Hid (l9.length=8):=Lib.hid (by rw [hl9];exact putHighS_len bits)
  rw [← hl9] at HP
  have HW:Hid (szM (extI T l9)+9≤20 * t.wt):=Lib.hid (by rw [sz_ext,HLZ.out];omega)
  clear hb hl9 h2
  clear hS hTB hBV
  go_enter Tryz.func43,Tryz.ntmps43
  go_upto_region 30 with fail
  rw [← hwa]
  clear hwa
  have hx0:Chg (fun k=>k=w.heap.size+1) wa wa:=Chg.refl _ _
  obtain ⟨-,f0,f1⟩:=HKS.out wa hx0
  have hbw:Below wa.heap.size wa wa:=Below.refl _ _
  go_region_held3 (fun W=>Hid (Chg (fun k=>k=w.heap.size+1) wa W)∧W.cell? ⟨w.heap.size,0,none⟩=some (.int .i64 17)∧W.cell? ⟨w.heap.size,1,none⟩=some (.int .u64 (bits:Nat))) (first|((with_reducible refine HKS.out _ ?_);(repeat' (first|with_reducible assumption|with_reducible refine Chg.set2 ?_ (by exact rfl) _ _|with_reducible apply Chg.drew|with_reducible refine Chg.alloc ?_ _|with_reducible exact Chg.refl _ _));done)|fail)
    ((first
      | (go_at_call 40;(with_reducible refine (HP.out _).mono ?_);rintro e w9 ⟨u9,rfl,ho,hb⟩;have hx9:=below_then3' (a:=wa) (by (repeat' (first|with_reducible assumption|with_reducible exact HSu7.out.bel|with_reducible exact HSu8.out.bel|with_reducible exact HSu9.out.bel|with_reducible refine Below.drew ?_|with_reducible refine Below.alloc ?_ (by first|omega|exact Nat.le_refl _|(simp;omega)) _|with_reducible exact Below.refl _ _))) hb;have hs9:=hx9.size;have hz9:Chg (fun k=>k=w.heap.size+1) wa w9:=Chg.of_below hx9;have HSu9:Hid (St wa u9 l9 w9):=Lib.hid ⟨ho.weaken (by first|omega|exact Nat.le_refl _|(simp;omega)),hx9⟩;obtain ⟨aZ,cZ,rfl,HRZ,HOZ⟩:=ext_of (S0:=S0) HSu9.out hz2;rw [HLZ.out] at HRZ HOZ ⊢;clear ho hb)
      | (go_at_call 64;(with_reducible refine (HX.out aZ 8 cZ _).mono ?_);rintro e w6 ⟨rfl,hb6⟩;have hx6:=below_then3' (a:=wa) (by (repeat' (first|with_reducible assumption|with_reducible exact HSu7.out.bel|with_reducible exact HSu8.out.bel|with_reducible exact HSu9.out.bel|with_reducible refine Below.drew ?_|with_reducible refine Below.alloc ?_ (by first|omega|exact Nat.le_refl _|(simp;omega)) _|with_reducible exact Below.refl _ _))) hb6;have hz6:Chg (fun k=>k=w.heap.size+1) wa w6:=Chg.of_below hx6;have HB6:=Lib.hid (HTB.out.2.trans (hx6.mono HTB.out.2.size));have HX6:=Lib.hid (HTB.out.1.keep hx6);have HI6:=Lib.hid (show RdIt (fun k=>S0 k∨w.heap.size+2≤k) w6 _ _ from rdit_ext T (by have:=HT9.out;omega) (HRZ.out.chgZ (below_then3' (a:=w9) (by (repeat' (first|with_reducible assumption|with_reducible exact HSu7.out.bel|with_reducible exact HSu8.out.bel|with_reducible exact HSu9.out.bel|with_reducible refine Below.drew ?_|with_reducible refine Below.alloc ?_ (by first|omega|exact Nat.le_refl _|(simp;omega)) _|with_reducible exact Below.refl _ _))) hb6)) HOZ.out);obtain ⟨p0,p1,p2,p3,p4,r0,r1,r2,r3,r4,r5⟩:=HX6.out.zs;clear hb6)
      | fail))
  all_goals
   go_wp2_with fail
   refine bodyPost_ret (v:=.agg (itCells 10 T aZ 8 cZ ⟨#[]⟩ none 0 0)) (by simp [results,Tryz.results43,go_sem, *]) rfl ?_
   refine mt_fin HS.out HI6.out (ok_ext T _ HT9.out) HW.out HB6.out ?_
   iterate 5 (refine Chg.set2 ?_ (by exact rfl) _ _)
   exact Chg.refl _ _
set_option maxRecDepth 100000 in
set_option maxHeartbeats 4000000 in
theorem mtem_18 (S0:Nat→Prop) (t:T) (w:World) (hS:∀ k,S0 k→k < w.heap.size) (bits hi lo:Nat) (text more:ByteArray) (sub:Int) (ab:Option Addr) (nb cb:Nat) (ak:Option Addr) (nk ck:Nat) (h2:2≤t.wt) (hb:bits < okSize):Calls Tryz.prog 43 #[.agg (valCells 18 bits hi lo text more sub ab nb cb ak nk ck)] w (MtOut S0 t w):=by
  have hTB:=two_boxes w (valCells 18 bits hi lo text more sub ab nb cb ak nk ck)
  obtain ⟨wa,hwa⟩:∃ W,W=((w.alloc (.cells (valCells 18 bits hi lo text more sub ab nb cb ak nk ck) 26)).alloc (.cells #[.int .i64 0,.int .u64 0,.slice none 0 0,.string ⟨#[]⟩,.slice none 0 0] 39)):=⟨_,rfl⟩
  have hTB:BoxI wa (w.heap.size+1) z5∧Below w.heap.size w wa:=by rw [hwa];exact hTB
  have hBV:BoxV wa w.heap.size (valCells 18 bits hi lo text more sub ab nb cb ak nk ck):=by rw [hwa];exact (BoxV.new w _ _).keep ((Below.refl _ _).alloc (Nat.le_refl _) _)
  have HTB:=Lib.hid hTB
  have HBV:=Lib.hid hBV
  have HS:=Lib.hid hS
  obtain ⟨T,hT⟩:∃ T:Nat,T=sortM 18:=⟨_,rfl⟩
  have HT9:Hid (T≤127):=Lib.hid (by rw [hT];decide)
  have HX:Hid (∀ (a:Option Addr) (n c:Nat) (W:World),Calls Tryz.prog 64 #[.int .i64 18,.slice a n c] W fun e w'=>e=.returned (.agg (itCells 10 T a n c ⟨#[]⟩ none 0 0))∧Below W.heap.size W w'):=Lib.hid fun a n c W=>by rw [hT];exact exted_calls 18 (by omega) a n c W
  clear hT
  have HKS:Hid (∀ W,Chg (fun k=>k=w.heap.size+1) wa W→Hid (Chg (fun k=>k=w.heap.size+1) wa W)∧W.cell? ⟨w.heap.size,0,none⟩=some (.int .i64 18)∧W.cell? ⟨w.heap.size,1,none⟩=some (.int .u64 (bits:Nat))):=Lib.hid fun W hW=>⟨Lib.hid hW,hW.cell (p:=⟨w.heap.size,0,none⟩) (fun e=>by have e2:w.heap.size=w.heap.size+1:=e;omega) (HBV.out.2 0 (by omega)).1,hW.cell (p:=⟨w.heap.size,1,none⟩) (fun e=>by have e2:w.heap.size=w.heap.size+1:=e;omega) (HBV.out.2 1 (by omega)).1⟩
  have hz2:w.heap.size+2≤wa.heap.size:=HTB.out.1.1
  have HP:=Lib.hid (fun W=>putHigh_calls bits 8 hb W)
  obtain ⟨l9,hl9⟩:∃ l,l=putHighS bits 8:=⟨_,rfl⟩
  have HLZ:Hid (l9.length=8):=Lib.hid (by rw [hl9];exact putHighS_len bits)
  rw [← hl9] at HP
  have HW:Hid (szM (extI T l9)+9≤20 * t.wt):=Lib.hid (by rw [sz_ext,HLZ.out];omega)
  clear hb hl9 h2
  clear hS hTB hBV
  go_enter Tryz.func43,Tryz.ntmps43
  go_upto_region 30 with fail
  rw [← hwa]
  clear hwa
  have hx0:Chg (fun k=>k=w.heap.size+1) wa wa:=Chg.refl _ _
  obtain ⟨-,f0,f1⟩:=HKS.out wa hx0
  have hbw:Below wa.heap.size wa wa:=Below.refl _ _
  go_region_held3 (fun W=>Hid (Chg (fun k=>k=w.heap.size+1) wa W)∧W.cell? ⟨w.heap.size,0,none⟩=some (.int .i64 18)∧W.cell? ⟨w.heap.size,1,none⟩=some (.int .u64 (bits:Nat))) (first|((with_reducible refine HKS.out _ ?_);(repeat' (first|with_reducible assumption|with_reducible refine Chg.set2 ?_ (by exact rfl) _ _|with_reducible apply Chg.drew|with_reducible refine Chg.alloc ?_ _|with_reducible exact Chg.refl _ _));done)|fail)
    ((first
      | (go_at_call 40;(with_reducible refine (HP.out _).mono ?_);rintro e w9 ⟨u9,rfl,ho,hb⟩;have hx9:=below_then3' (a:=wa) (by (repeat' (first|with_reducible assumption|with_reducible exact HSu7.out.bel|with_reducible exact HSu8.out.bel|with_reducible exact HSu9.out.bel|with_reducible refine Below.drew ?_|with_reducible refine Below.alloc ?_ (by first|omega|exact Nat.le_refl _|(simp;omega)) _|with_reducible exact Below.refl _ _))) hb;have hs9:=hx9.size;have hz9:Chg (fun k=>k=w.heap.size+1) wa w9:=Chg.of_below hx9;have HSu9:Hid (St wa u9 l9 w9):=Lib.hid ⟨ho.weaken (by first|omega|exact Nat.le_refl _|(simp;omega)),hx9⟩;obtain ⟨aZ,cZ,rfl,HRZ,HOZ⟩:=ext_of (S0:=S0) HSu9.out hz2;rw [HLZ.out] at HRZ HOZ ⊢;clear ho hb)
      | (go_at_call 64;(with_reducible refine (HX.out aZ 8 cZ _).mono ?_);rintro e w6 ⟨rfl,hb6⟩;have hx6:=below_then3' (a:=wa) (by (repeat' (first|with_reducible assumption|with_reducible exact HSu7.out.bel|with_reducible exact HSu8.out.bel|with_reducible exact HSu9.out.bel|with_reducible refine Below.drew ?_|with_reducible refine Below.alloc ?_ (by first|omega|exact Nat.le_refl _|(simp;omega)) _|with_reducible exact Below.refl _ _))) hb6;have hz6:Chg (fun k=>k=w.heap.size+1) wa w6:=Chg.of_below hx6;have HB6:=Lib.hid (HTB.out.2.trans (hx6.mono HTB.out.2.size));have HX6:=Lib.hid (HTB.out.1.keep hx6);have HI6:=Lib.hid (show RdIt (fun k=>S0 k∨w.heap.size+2≤k) w6 _ _ from rdit_ext T (by have:=HT9.out;omega) (HRZ.out.chgZ (below_then3' (a:=w9) (by (repeat' (first|with_reducible assumption|with_reducible exact HSu7.out.bel|with_reducible exact HSu8.out.bel|with_reducible exact HSu9.out.bel|with_reducible refine Below.drew ?_|with_reducible refine Below.alloc ?_ (by first|omega|exact Nat.le_refl _|(simp;omega)) _|with_reducible exact Below.refl _ _))) hb6)) HOZ.out);obtain ⟨p0,p1,p2,p3,p4,r0,r1,r2,r3,r4,r5⟩:=HX6.out.zs;clear hb6)
      | fail))
  all_goals
   go_wp2_with fail
   refine bodyPost_ret (v:=.agg (itCells 10 T aZ 8 cZ ⟨#[]⟩ none 0 0)) (by simp [results,Tryz.results43,go_sem, *]) rfl ?_
   refine mt_fin HS.out HI6.out (ok_ext T _ HT9.out) HW.out HB6.out ?_
   iterate 5 (refine Chg.set2 ?_ (by exact rfl) _ _)
   exact Chg.refl _ _
set_option maxRecDepth 100000 in
set_option maxHeartbeats 4000000 in
theorem mtem_19 (S0:Nat→Prop) (t:T) (w:World) (hS:∀ k,S0 k→k < w.heap.size) (bits hi lo:Nat) (text more:ByteArray) (sub:Int) (ab:Option Addr) (nb cb:Nat) (ak:Option Addr) (nk ck:Nat) (h2:2≤t.wt) (hh:hi < okSize) (hlo:lo < okSize):Calls Tryz.prog 43 #[.agg (valCells 19 bits hi lo text more sub ab nb cb ak nk ck)] w (MtOut S0 t w):=by
  have hTB:=two_boxes w (valCells 19 bits hi lo text more sub ab nb cb ak nk ck)
  obtain ⟨wa,hwa⟩:∃ W,W=((w.alloc (.cells (valCells 19 bits hi lo text more sub ab nb cb ak nk ck) 26)).alloc (.cells #[.int .i64 0,.int .u64 0,.slice none 0 0,.string ⟨#[]⟩,.slice none 0 0] 39)):=⟨_,rfl⟩
  have hTB:BoxI wa (w.heap.size+1) z5∧Below w.heap.size w wa:=by rw [hwa];exact hTB
  have hBV:BoxV wa w.heap.size (valCells 19 bits hi lo text more sub ab nb cb ak nk ck):=by rw [hwa];exact (BoxV.new w _ _).keep ((Below.refl _ _).alloc (Nat.le_refl _) _)
  have HTB:=Lib.hid hTB
  have HBV:=Lib.hid hBV
  have HS:=Lib.hid hS
  obtain ⟨T,hT⟩:∃ T:Nat,T=sortM 19:=⟨_,rfl⟩
  have HT9:Hid (T≤127):=Lib.hid (by rw [hT];decide)
  have HX:Hid (∀ (a:Option Addr) (n c:Nat) (W:World),Calls Tryz.prog 64 #[.int .i64 19,.slice a n c] W fun e w'=>e=.returned (.agg (itCells 10 T a n c ⟨#[]⟩ none 0 0))∧Below W.heap.size W w'):=Lib.hid fun a n c W=>by rw [hT];exact exted_calls 19 (by omega) a n c W
  clear hT
  have HKS:Hid (∀ W,Chg (fun k=>k=w.heap.size+1) wa W→Hid (Chg (fun k=>k=w.heap.size+1) wa W)∧W.cell? ⟨w.heap.size,0,none⟩=some (.int .i64 19)∧W.cell? ⟨w.heap.size,2,none⟩=some (.int .u64 (hi:Nat))∧W.cell? ⟨w.heap.size,3,none⟩=some (.int .u64 (lo:Nat))):=Lib.hid fun W hW=>⟨Lib.hid hW,hW.cell (p:=⟨w.heap.size,0,none⟩) (fun e=>by have e2:w.heap.size=w.heap.size+1:=e;omega) (HBV.out.2 0 (by omega)).1,hW.cell (p:=⟨w.heap.size,2,none⟩) (fun e=>by have e2:w.heap.size=w.heap.size+1:=e;omega) (HBV.out.2 2 (by omega)).1,hW.cell (p:=⟨w.heap.size,3,none⟩) (fun e=>by have e2:w.heap.size=w.heap.size+1:=e;omega) (HBV.out.2 3 (by omega)).1⟩
  have hz2:w.heap.size+2≤wa.heap.size:=HTB.out.1.1
  have HP1:=Lib.hid (fun W=>putHigh_calls hi 8 hh W)
  have HP2:=Lib.hid (fun W=>putHigh_calls lo 8 hlo W)
  obtain ⟨l7,hl7⟩:∃ l,l=putHighS hi 8:=⟨_,rfl⟩
  obtain ⟨l8,hl8⟩:∃ l,l=putHighS lo 8:=⟨_,rfl⟩
  have HL7:Hid (l7.length=8):=Lib.hid (by rw [hl7];exact putHighS_len hi)
  have HL8:Hid (l8.length=8):=Lib.hid (by rw [hl8];exact putHighS_len lo)
  have HLZ:Hid ((l7++l8).length=16):=Lib.hid (by rw [List.length_append,HL7.out,HL8.out])
  rw [← hl7] at HP1
  rw [← hl8] at HP2
  have HW:Hid (szM (extI T (l7++l8))+9≤20 * t.wt):=Lib.hid (by rw [sz_ext,HLZ.out];omega)
  clear h2 hh hlo hl7 hl8
  clear hS hTB hBV
  go_enter Tryz.func43,Tryz.ntmps43
  go_upto_region 43 with fail
  rw [← hwa]
  clear hwa
  have hx0:Chg (fun k=>k=w.heap.size+1) wa wa:=Chg.refl _ _
  obtain ⟨-,f0,f2,f3⟩:=HKS.out wa hx0
  have hbw:Below wa.heap.size wa wa:=Below.refl _ _
  go_region_held3 (fun W=>Hid (Chg (fun k=>k=w.heap.size+1) wa W)∧W.cell? ⟨w.heap.size,0,none⟩=some (.int .i64 19)∧W.cell? ⟨w.heap.size,2,none⟩=some (.int .u64 (hi:Nat))∧W.cell? ⟨w.heap.size,3,none⟩=some (.int .u64 (lo:Nat))) (first|((with_reducible refine HKS.out _ ?_);(repeat' (first|with_reducible assumption|with_reducible refine Chg.set2 ?_ (by exact rfl) _ _|with_reducible apply Chg.drew|with_reducible refine Chg.alloc ?_ _|with_reducible exact Chg.refl _ _));done)|fail)
    ((first
      | (go_at_call 40;(with_reducible refine (HP1.out _).mono ?_);rintro e w7 ⟨u7,rfl,ho,hb⟩;have hxw7:=below_then3' (a:=wa) (by (repeat' (first|with_reducible assumption|with_reducible exact HSu7.out.bel|with_reducible exact HSu8.out.bel|with_reducible exact HSu9.out.bel|with_reducible refine Below.drew ?_|with_reducible refine Below.alloc ?_ (by first|omega|exact Nat.le_refl _|(simp;omega)) _|with_reducible exact Below.refl _ _))) hb;have hsw7:=hxw7.size;have hzw7:Chg (fun k=>k=w.heap.size+1) wa w7:=Chg.of_below hxw7;have HSu7:Hid (St wa u7 l7 w7):=Lib.hid ⟨ho.weaken (by first|omega|exact Nat.le_refl _|(simp;omega)),hxw7⟩;(try have hyy:=below_then3' (a:=w8) (by (repeat' (first|with_reducible assumption|with_reducible exact HSu7.out.bel|with_reducible exact HSu8.out.bel|with_reducible exact HSu9.out.bel|with_reducible refine Below.drew ?_|with_reducible refine Below.alloc ?_ (by first|omega|exact Nat.le_refl _|(simp;omega)) _|with_reducible exact Below.refl _ _))) hb);clear ho hb)
      | (go_at_call 40;(with_reducible refine (HP2.out _).mono ?_);rintro e w8 ⟨u8,rfl,ho,hb⟩;have hxw8:=below_then3' (a:=wa) (by (repeat' (first|with_reducible assumption|with_reducible exact HSu7.out.bel|with_reducible exact HSu8.out.bel|with_reducible exact HSu9.out.bel|with_reducible refine Below.drew ?_|with_reducible refine Below.alloc ?_ (by first|omega|exact Nat.le_refl _|(simp;omega)) _|with_reducible exact Below.refl _ _))) hb;have hsw8:=hxw8.size;have hzw8:Chg (fun k=>k=w.heap.size+1) wa w8:=Chg.of_below hxw8;have HSu8:Hid (St wa u8 l8 w8):=Lib.hid ⟨ho.weaken (by first|omega|exact Nat.le_refl _|(simp;omega)),hxw8⟩;(try have hyy:=below_then3' (a:=w7) (by (repeat' (first|with_reducible assumption|with_reducible exact HSu7.out.bel|with_reducible exact HSu8.out.bel|with_reducible exact HSu9.out.bel|with_reducible refine Below.drew ?_|with_reducible refine Below.alloc ?_ (by first|omega|exact Nat.le_refl _|(simp;omega)) _|with_reducible exact Below.refl _ _))) hb);clear ho hb)
      | (refine arm_row (w:=wa) (v:=u7) (u:=u8) (bs:=l7) (l:=l8) (by rfl) _ _ (by rfl) (by rfl) (by rfl) ?_ ?_ ?_ ?_;(case _=>((with_reducible refine HSu7.out.keep ?_);(repeat' (first|with_reducible assumption|with_reducible exact HSu7.out.bel|with_reducible exact HSu8.out.bel|with_reducible exact HSu9.out.bel|with_reducible refine Below.drew ?_|with_reducible refine Below.alloc ?_ (by first|omega|exact Nat.le_refl _|(simp;omega)) _|with_reducible exact Below.refl _ _))));(case _=>((with_reducible refine St.srcK HSu8.out ?_);(repeat' (first|with_reducible assumption|with_reducible exact HSu7.out.bel|with_reducible exact HSu8.out.bel|with_reducible exact HSu9.out.bel|with_reducible refine Below.drew ?_|with_reducible refine Below.alloc ?_ (by first|omega|exact Nat.le_refl _|(simp;omega)) _|with_reducible exact Below.refl _ _))));(case _=>(rw [HL7.out,HL8.out];omega));rintro u9 w9 hst9 hl9;have HSu9:=Lib.hid hst9;have hx9:=hst9.bel;have hs9:=hx9.size;have hz9:Chg (fun k=>k=w.heap.size+1) wa w9:=Chg.of_below hx9;obtain ⟨aZ,cZ,rfl,HRZ,HOZ⟩:=ext_of (S0:=S0) HSu9.out hz2;rw [HLZ.out] at HRZ HOZ ⊢;clear hst9 hl9)
      | (go_at_call 64;(with_reducible refine (HX.out aZ 16 cZ _).mono ?_);rintro e w6 ⟨rfl,hb6⟩;have hx6:=below_then3' (a:=wa) (by (repeat' (first|with_reducible assumption|with_reducible exact HSu7.out.bel|with_reducible exact HSu8.out.bel|with_reducible exact HSu9.out.bel|with_reducible refine Below.drew ?_|with_reducible refine Below.alloc ?_ (by first|omega|exact Nat.le_refl _|(simp;omega)) _|with_reducible exact Below.refl _ _))) hb6;have hz6:Chg (fun k=>k=w.heap.size+1) wa w6:=Chg.of_below hx6;have HB6:=Lib.hid (HTB.out.2.trans (hx6.mono HTB.out.2.size));have HX6:=Lib.hid (HTB.out.1.keep hx6);have HI6:=Lib.hid (show RdIt (fun k=>S0 k∨w.heap.size+2≤k) w6 _ _ from rdit_ext T (by have:=HT9.out;omega) (HRZ.out.chgZ (below_then3' (a:=w9) (by (repeat' (first|with_reducible assumption|with_reducible exact HSu7.out.bel|with_reducible exact HSu8.out.bel|with_reducible exact HSu9.out.bel|with_reducible refine Below.drew ?_|with_reducible refine Below.alloc ?_ (by first|omega|exact Nat.le_refl _|(simp;omega)) _|with_reducible exact Below.refl _ _))) hb6)) HOZ.out);obtain ⟨p0,p1,p2,p3,p4,r0,r1,r2,r3,r4,r5⟩:=HX6.out.zs;clear hb6)
      | fail))
  all_goals
   go_wp2_with fail
   refine bodyPost_ret (v:=.agg (itCells 10 T aZ 16 cZ ⟨#[]⟩ none 0 0)) (by simp [results,Tryz.results43,go_sem, *]) rfl ?_
   refine mt_fin HS.out HI6.out (ok_ext T _ HT9.out) HW.out HB6.out ?_
   iterate 5 (refine Chg.set2 ?_ (by exact rfl) _ _)
   exact Chg.refl _ _
set_option maxRecDepth 100000 in
set_option maxHeartbeats 4000000 in
theorem mtem_5b (S0:Nat→Prop) (t:T) (w:World) (hS:∀ k,S0 k→k < w.heap.size) (bits hi lo:Nat) (text more:ByteArray) (sub:Int) (ab:Option Addr) (nb cb:Nat) (ak:Option Addr) (nk ck:Nat) (m:Nat) (hm0:m≠0) (hm1:m≤255) (bs:List UInt8) (hbs:RdBS S0 w ab nb bs) (hro:Roomy ab nb cb) (hw:bs.length+2≤t.wt) (ht9:t.wt≤1000000):Calls Tryz.prog 43 #[.agg (valCells 5 bits hi lo text more (m:Nat) ab nb cb ak nk ck)] w (MtOut S0 t w):=by
  have hTB:=two_boxes w (valCells 5 bits hi lo text more (m:Nat) ab nb cb ak nk ck)
  obtain ⟨wa,hwa⟩:∃ W,W=((w.alloc (.cells (valCells 5 bits hi lo text more (m:Nat) ab nb cb ak nk ck) 26)).alloc (.cells #[.int .i64 0,.int .u64 0,.slice none 0 0,.string ⟨#[]⟩,.slice none 0 0] 39)):=⟨_,rfl⟩
  have hTB:BoxI wa (w.heap.size+1) z5∧Below w.heap.size w wa:=by rw [hwa];exact hTB
  have hBV:BoxV wa w.heap.size (valCells 5 bits hi lo text more (m:Nat) ab nb cb ak nk ck):=by rw [hwa];exact (BoxV.new w _ _).keep ((Below.refl _ _).alloc (Nat.le_refl _) _)
  have HTB:=Lib.hid hTB
  have HBV:=Lib.hid hBV
  have HS:=Lib.hid hS
  obtain ⟨T,hT⟩:∃ T:Nat,T=sortM 5:=⟨_,rfl⟩
  have HT9:Hid (T≤127):=Lib.hid (by rw [hT];decide)
  have HX:Hid (∀ (a:Option Addr) (n c:Nat) (W:World),Calls Tryz.prog 64 #[.int .i64 5,.slice a n c] W fun e w'=>e=.returned (.agg (itCells 10 T a n c ⟨#[]⟩ none 0 0))∧Below W.heap.size W w'):=Lib.hid fun a n c W=>by rw [hT];exact exted_calls 5 (by omega) a n c W
  clear hT
  have HKS:Hid (∀ W,Chg (fun k=>k=w.heap.size+1) wa W→Hid (Chg (fun k=>k=w.heap.size+1) wa W)∧W.cell? ⟨w.heap.size,0,none⟩=some (.int .i64 5)∧W.cell? ⟨w.heap.size,6,none⟩=some (.int .i64 (m:Nat))∧W.cell? ⟨w.heap.size,7,none⟩=some (.slice ab nb cb)):=Lib.hid fun W hW=>⟨Lib.hid hW,hW.cell (p:=⟨w.heap.size,0,none⟩) (fun e=>by have e2:w.heap.size=w.heap.size+1:=e;omega) (HBV.out.2 0 (by omega)).1,hW.cell (p:=⟨w.heap.size,6,none⟩) (fun e=>by have e2:w.heap.size=w.heap.size+1:=e;omega) (HBV.out.2 6 (by omega)).1,hW.cell (p:=⟨w.heap.size,7,none⟩) (fun e=>by have e2:w.heap.size=w.heap.size+1:=e;omega) (HBV.out.2 7 (by omega)).1⟩
  have hz2:w.heap.size+2≤wa.heap.size:=HTB.out.1.1
  have w1:IntKind.u8.wrap (m:Int)=(m:Int):=IntWalk.u8_in _ (by omega)
  have hm2:((m:Int) == 0)=false:=by simp;omega
  have HS0:Hid (St wa (.slice (some ⟨wa.heap.size,0,none⟩) 1 1) [UInt8.ofNat m] (wa.alloc (.cells #[.int .u8 (m:Nat)] 5))):=Lib.hid ⟨own_fresh wa _ m (by omega) (Nat.le_refl _),(Below.refl _ _).alloc (Nat.le_refl _) _⟩
  have HSR:Hid (∀ W,Below wa.heap.size wa W→SrcB W (.slice ab nb cb) bs):=Lib.hid fun W hW=>⟨ab,nb,cb,rfl,(hbs.1.keep HTB.out.2).keep hW,hro.1⟩
  have HBL:Hid (bs.length≤1000000):=Lib.hid (by omega)
  obtain ⟨N9,hN9⟩:∃ N,N=([UInt8.ofNat m]++bs).length:=⟨_,rfl⟩
  have HLZ:Hid (([UInt8.ofNat m]++bs).length=N9):=Lib.hid hN9.symm
  have HW:Hid (szM (extI T ([UInt8.ofNat m]++bs))+9≤20 * t.wt):=Lib.hid (by rw [sz_ext];simp;omega)
  clear hbs hro hw ht9 hN9 hm0 hm1
  clear hS hTB hBV
  go_enter Tryz.func43,Tryz.ntmps43
  go_upto_region 20 with fail
  rw [← hwa]
  clear hwa
  have hx0:Chg (fun k=>k=w.heap.size+1) wa wa:=Chg.refl _ _
  obtain ⟨-,f0,f6,f7⟩:=HKS.out wa hx0
  have hbw:Below wa.heap.size wa wa:=Below.refl _ _
  go_region_held3 (fun W=>Hid (Chg (fun k=>k=w.heap.size+1) wa W)∧W.cell? ⟨w.heap.size,0,none⟩=some (.int .i64 5)∧W.cell? ⟨w.heap.size,6,none⟩=some (.int .i64 (m:Nat))∧W.cell? ⟨w.heap.size,7,none⟩=some (.slice ab nb cb)) (first|((with_reducible refine HKS.out _ ?_);(repeat' (first|with_reducible assumption|with_reducible refine Chg.set2 ?_ (by exact rfl) _ _|with_reducible apply Chg.drew|with_reducible refine Chg.alloc ?_ _|with_reducible exact Chg.refl _ _));done)|fail)
    ((first
      | (refine arm_row (w:=wa) (v:=.slice (some ⟨wa.heap.size,0,none⟩) 1 1) (u:=.slice ab nb cb) (bs:=[UInt8.ofNat m]) (l:=bs) (by rfl) _ _ (by rfl) (by rfl) (by rfl) ?_ ?_ ?_ ?_;(case _=>((repeat' (first|with_reducible exact HS0.out|with_reducible refine St.drew ?_))));(case _=>((with_reducible refine HSR.out _ ?_);(repeat' (first|with_reducible assumption|with_reducible exact HSu7.out.bel|with_reducible exact HSu8.out.bel|with_reducible exact HSu9.out.bel|with_reducible refine Below.drew ?_|with_reducible refine Below.alloc ?_ (by first|omega|exact Nat.le_refl _|(simp;omega)) _|with_reducible exact Below.refl _ _))));(case _=>(have:=HBL.out;simp;omega));rintro u9 w9 hst9 hl9;have HSu9:=Lib.hid hst9;have hx9:=hst9.bel;have hs9:=hx9.size;have hz9:Chg (fun k=>k=w.heap.size+1) wa w9:=Chg.of_below hx9;obtain ⟨aZ,cZ,rfl,HRZ,HOZ⟩:=ext_of (S0:=S0) HSu9.out hz2;rw [HLZ.out] at HRZ HOZ ⊢;clear hst9 hl9)
      | (go_at_call 64;(with_reducible refine (HX.out aZ N9 cZ _).mono ?_);rintro e w6 ⟨rfl,hb6⟩;have hx6:=below_then3' (a:=wa) (by (repeat' (first|with_reducible assumption|with_reducible exact HSu7.out.bel|with_reducible exact HSu8.out.bel|with_reducible exact HSu9.out.bel|with_reducible refine Below.drew ?_|with_reducible refine Below.alloc ?_ (by first|omega|exact Nat.le_refl _|(simp;omega)) _|with_reducible exact Below.refl _ _))) hb6;have hz6:Chg (fun k=>k=w.heap.size+1) wa w6:=Chg.of_below hx6;have HB6:=Lib.hid (HTB.out.2.trans (hx6.mono HTB.out.2.size));have HX6:=Lib.hid (HTB.out.1.keep hx6);have HI6:=Lib.hid (show RdIt (fun k=>S0 k∨w.heap.size+2≤k) w6 _ _ from rdit_ext T (by have:=HT9.out;omega) (HRZ.out.chgZ (below_then3' (a:=w9) (by (repeat' (first|with_reducible assumption|with_reducible exact HSu7.out.bel|with_reducible exact HSu8.out.bel|with_reducible exact HSu9.out.bel|with_reducible refine Below.drew ?_|with_reducible refine Below.alloc ?_ (by first|omega|exact Nat.le_refl _|(simp;omega)) _|with_reducible exact Below.refl _ _))) hb6)) HOZ.out);obtain ⟨p0,p1,p2,p3,p4,r0,r1,r2,r3,r4,r5⟩:=HX6.out.zs;clear hb6)
      | fail))
  all_goals
   go_wp2_with fail
   refine bodyPost_ret (v:=.agg (itCells 10 T aZ N9 cZ ⟨#[]⟩ none 0 0)) (by simp [results,Tryz.results43,go_sem, *]) rfl ?_
   refine mt_fin HS.out HI6.out (ok_ext T _ HT9.out) HW.out HB6.out ?_
   iterate 5 (refine Chg.set2 ?_ (by exact rfl) _ _)
   exact Chg.refl _ _
set_option maxRecDepth 100000 in
set_option maxHeartbeats 4000000 in
theorem mtem_12 (S0:Nat→Prop) (t:T) (w:World) (hS:∀ k,S0 k→k < w.heap.size) (bits hi lo:Nat) (text more:ByteArray) (sub:Int) (ab:Option Addr) (nb cb:Nat) (ak:Option Addr) (nk ck:Nat) (bs:List UInt8) (hbs:RdBS S0 w ab nb bs) (hro:Roomy ab nb cb) (hw:text.size+bs.length+2≤t.wt) (ht9:t.wt≤1000000):Calls Tryz.prog 43 #[.agg (valCells 12 bits hi lo text more sub ab nb cb ak nk ck)] w (MtOut S0 t w):=by
  have hTB:=two_boxes w (valCells 12 bits hi lo text more sub ab nb cb ak nk ck)
  obtain ⟨wa,hwa⟩:∃ W,W=((w.alloc (.cells (valCells 12 bits hi lo text more sub ab nb cb ak nk ck) 26)).alloc (.cells #[.int .i64 0,.int .u64 0,.slice none 0 0,.string ⟨#[]⟩,.slice none 0 0] 39)):=⟨_,rfl⟩
  have hTB:BoxI wa (w.heap.size+1) z5∧Below w.heap.size w wa:=by rw [hwa];exact hTB
  have hBV:BoxV wa w.heap.size (valCells 12 bits hi lo text more sub ab nb cb ak nk ck):=by rw [hwa];exact (BoxV.new w _ _).keep ((Below.refl _ _).alloc (Nat.le_refl _) _)
  have HTB:=Lib.hid hTB
  have HBV:=Lib.hid hBV
  have HS:=Lib.hid hS
  obtain ⟨T,hT⟩:∃ T:Nat,T=sortM 12:=⟨_,rfl⟩
  have HT9:Hid (T≤127):=Lib.hid (by rw [hT];decide)
  have HX:Hid (∀ (a:Option Addr) (n c:Nat) (W:World),Calls Tryz.prog 64 #[.int .i64 12,.slice a n c] W fun e w'=>e=.returned (.agg (itCells 10 T a n c ⟨#[]⟩ none 0 0))∧Below W.heap.size W w'):=Lib.hid fun a n c W=>by rw [hT];exact exted_calls 12 (by omega) a n c W
  clear hT
  have HKS:Hid (∀ W,Chg (fun k=>k=w.heap.size+1) wa W→Hid (Chg (fun k=>k=w.heap.size+1) wa W)∧W.cell? ⟨w.heap.size,0,none⟩=some (.int .i64 12)∧W.cell? ⟨w.heap.size,4,none⟩=some (.string text)∧W.cell? ⟨w.heap.size,7,none⟩=some (.slice ab nb cb)):=Lib.hid fun W hW=>⟨Lib.hid hW,hW.cell (p:=⟨w.heap.size,0,none⟩) (fun e=>by have e2:w.heap.size=w.heap.size+1:=e;omega) (HBV.out.2 0 (by omega)).1,hW.cell (p:=⟨w.heap.size,4,none⟩) (fun e=>by have e2:w.heap.size=w.heap.size+1:=e;omega) (HBV.out.2 4 (by omega)).1,hW.cell (p:=⟨w.heap.size,7,none⟩) (fun e=>by have e2:w.heap.size=w.heap.size+1:=e;omega) (HBV.out.2 7 (by omega)).1⟩
  have hz2:w.heap.size+2≤wa.heap.size:=HTB.out.1.1
  have HS0:Hid (St wa (.slice (some ⟨wa.heap.size,0,none⟩) 0 0) [] (wa.alloc (.cells #[] 5))):=Lib.hid ⟨own_none wa _ (Nat.le_refl _),(Below.refl _ _).alloc (Nat.le_refl _) _⟩
  have HSR:Hid (∀ W,Below wa.heap.size wa W→SrcB W (.slice ab nb cb) bs):=Lib.hid fun W hW=>⟨ab,nb,cb,rfl,(hbs.1.keep HTB.out.2).keep hW,hro.1⟩
  have HBL:Hid (bs.length+text.size≤1000000):=Lib.hid (by omega)
  obtain ⟨N9,hN9⟩:∃ N,N=([]++bs++sl text).length:=⟨_,rfl⟩
  have HLZ:Hid (([]++bs++sl text).length=N9):=Lib.hid hN9.symm
  have HW:Hid (szM (extI T ([]++bs++sl text))+9≤20 * t.wt):=Lib.hid (by have:=sl_len text;rw [sz_ext];simp;omega)
  clear hbs hro hw ht9 hN9
  clear hS hTB hBV
  go_enter Tryz.func43,Tryz.ntmps43
  go_upto_region 34 with fail
  rw [← hwa]
  clear hwa
  have hx0:Chg (fun k=>k=w.heap.size+1) wa wa:=Chg.refl _ _
  obtain ⟨-,f0,f4,f7⟩:=HKS.out wa hx0
  have hbw:Below wa.heap.size wa wa:=Below.refl _ _
  go_region_held3 (fun W=>Hid (Chg (fun k=>k=w.heap.size+1) wa W)∧W.cell? ⟨w.heap.size,0,none⟩=some (.int .i64 12)∧W.cell? ⟨w.heap.size,4,none⟩=some (.string text)∧W.cell? ⟨w.heap.size,7,none⟩=some (.slice ab nb cb)) (first|((with_reducible refine HKS.out _ ?_);(repeat' (first|with_reducible assumption|with_reducible refine Chg.set2 ?_ (by exact rfl) _ _|with_reducible apply Chg.drew|with_reducible refine Chg.alloc ?_ _|with_reducible exact Chg.refl _ _));done)|fail)
    ((first
      | (refine arm_row (w:=wa) (v:=.slice (some ⟨wa.heap.size,0,none⟩) 0 0) (u:=.slice ab nb cb) (bs:=[]) (l:=bs) (by rfl) _ _ (by rfl) (by rfl) (by rfl) ?_ ?_ ?_ ?_;(case _=>((repeat' (first|with_reducible exact HS0.out|with_reducible refine St.drew ?_))));(case _=>((with_reducible refine HSR.out _ ?_);(repeat' (first|with_reducible assumption|with_reducible exact HSu7.out.bel|with_reducible exact HSu8.out.bel|with_reducible exact HSu9.out.bel|with_reducible refine Below.drew ?_|with_reducible refine Below.alloc ?_ (by first|omega|exact Nat.le_refl _|(simp;omega)) _|with_reducible exact Below.refl _ _))));(case _=>(have:=HBL.out;simp;omega));rintro u8 w8 hst hl;have HSu8:=Lib.hid hst;have hx8:=hst.bel;have hs8:=hx8.size;have hz8:Chg (fun k=>k=w.heap.size+1) wa w8:=Chg.of_below hx8;clear hst hl)
      | (refine arm_txt (w:=wa) (v:=u8) (bs:=[]++bs) (t:=text) (by rfl) _ _ (by rfl) (by rfl) (by rfl) ?_ ?_ ?_;(case _=>((repeat' (first|with_reducible exact HSu8.out|with_reducible refine St.drew ?_))));(case _=>(have:=HBL.out;simp;omega));rintro u9 w9 hst hl;have HSu9:=Lib.hid hst;have hx9:=hst.bel;have hs9:=hx9.size;have hz9:Chg (fun k=>k=w.heap.size+1) wa w9:=Chg.of_below hx9;obtain ⟨aZ,cZ,rfl,HRZ,HOZ⟩:=ext_of (S0:=S0) HSu9.out hz2;rw [HLZ.out] at HRZ HOZ ⊢;clear hst hl)
      | (go_at_call 64;(with_reducible refine (HX.out aZ N9 cZ _).mono ?_);rintro e w6 ⟨rfl,hb6⟩;have hx6:=below_then3' (a:=wa) (by (repeat' (first|with_reducible assumption|with_reducible exact HSu7.out.bel|with_reducible exact HSu8.out.bel|with_reducible exact HSu9.out.bel|with_reducible refine Below.drew ?_|with_reducible refine Below.alloc ?_ (by first|omega|exact Nat.le_refl _|(simp;omega)) _|with_reducible exact Below.refl _ _))) hb6;have hz6:Chg (fun k=>k=w.heap.size+1) wa w6:=Chg.of_below hx6;have HB6:=Lib.hid (HTB.out.2.trans (hx6.mono HTB.out.2.size));have HX6:=Lib.hid (HTB.out.1.keep hx6);have HI6:=Lib.hid (show RdIt (fun k=>S0 k∨w.heap.size+2≤k) w6 _ _ from rdit_ext T (by have:=HT9.out;omega) (HRZ.out.chgZ (below_then3' (a:=w9) (by (repeat' (first|with_reducible assumption|with_reducible exact HSu7.out.bel|with_reducible exact HSu8.out.bel|with_reducible exact HSu9.out.bel|with_reducible refine Below.drew ?_|with_reducible refine Below.alloc ?_ (by first|omega|exact Nat.le_refl _|(simp;omega)) _|with_reducible exact Below.refl _ _))) hb6)) HOZ.out);obtain ⟨p0,p1,p2,p3,p4,r0,r1,r2,r3,r4,r5⟩:=HX6.out.zs;clear hb6)
      | fail))
  all_goals
   go_wp2_with fail
   refine bodyPost_ret (v:=.agg (itCells 10 T aZ N9 cZ ⟨#[]⟩ none 0 0)) (by simp [results,Tryz.results43,go_sem, *]) rfl ?_
   refine mt_fin HS.out HI6.out (ok_ext T _ HT9.out) HW.out HB6.out ?_
   iterate 5 (refine Chg.set2 ?_ (by exact rfl) _ _)
   exact Chg.refl _ _
theorem lay29_ex (x:I) (h:szM x≤1000001) (hok:OkM x) (w:World) (c:Array Value) (hr:RdIt (fun _=>True) w x c):Calls Tryz.prog 26 #[.agg c] w (HeadW (LyP x) w):=lay29_all 1000001 (by omega) x h hok w c hr
theorem putHighS_len4 (v:Nat):(putHighS v 4).length=4:=by simp [putHighS,putLowS,leBytes_length]
theorem ext_len {T n v:Nat} {l7 L:List UInt8} {text:ByteArray} (h7:l7.length=4) (hL:L.length≤9+20 * n) (hw:text.size+n+2≤v):szM (extI T (l7++sl text++L))+9≤20 * v:=by
 have:=sl_len text
 rw [sz_ext];simp only [List.length_append];omega
set_option maxRecDepth 100000 in
set_option maxHeartbeats 4000000 in
theorem mtem_15 (S0:Nat→Prop) (t:T) (w:World) (hS:∀ k,S0 k→k < w.heap.size) (bits hi lo:Nat) (text more:ByteArray) (sub:Int) (ab:Option Addr) (nb cb:Nat) (ak:Option Addr) (nk ck:Nat) (f:F) (hm:∀ W,Below w.heap.size w W→Calls Tryz.prog 24 #[.slice ak nk ck] W (MuOut S0 f W)) (hw:text.size+f.wt+2≤t.wt) (ht9:t.wt≤40000):Calls Tryz.prog 43 #[.agg (valCells 15 bits hi lo text more sub ab nb cb ak nk ck)] w (MtOut S0 t w):=by
  have hTB:=two_boxes w (valCells 15 bits hi lo text more sub ab nb cb ak nk ck)
  obtain ⟨wa,hwa⟩:∃ W,W=((w.alloc (.cells (valCells 15 bits hi lo text more sub ab nb cb ak nk ck) 26)).alloc (.cells #[.int .i64 0,.int .u64 0,.slice none 0 0,.string ⟨#[]⟩,.slice none 0 0] 39)):=⟨_,rfl⟩
  have hTB:BoxI wa (w.heap.size+1) z5∧Below w.heap.size w wa:=by rw [hwa];exact hTB
  have hBV:BoxV wa w.heap.size (valCells 15 bits hi lo text more sub ab nb cb ak nk ck):=by rw [hwa];exact (BoxV.new w _ _).keep ((Below.refl _ _).alloc (Nat.le_refl _) _)
  have HTB:=Lib.hid hTB
  have HBV:=Lib.hid hBV
  have HS:=Lib.hid hS
  obtain ⟨T,hT⟩:∃ T:Nat,T=sortM 15:=⟨_,rfl⟩
  have HT9:Hid (T≤127):=Lib.hid (by rw [hT];decide)
  have HX:Hid (∀ (a:Option Addr) (n c:Nat) (W:World),Calls Tryz.prog 64 #[.int .i64 15,.slice a n c] W fun e w'=>e=.returned (.agg (itCells 10 T a n c ⟨#[]⟩ none 0 0))∧Below W.heap.size W w'):=Lib.hid fun a n c W=>by rw [hT];exact exted_calls 15 (by omega) a n c W
  clear hT
  have HKS:Hid (∀ W,Chg (fun k=>k=w.heap.size+1) wa W→Hid (Chg (fun k=>k=w.heap.size+1) wa W)∧W.cell? ⟨w.heap.size,0,none⟩=some (.int .i64 15)∧W.cell? ⟨w.heap.size,4,none⟩=some (.string text)∧W.cell? ⟨w.heap.size,8,none⟩=some (.slice ak nk ck)):=Lib.hid fun W hW=>⟨Lib.hid hW,hW.cell (p:=⟨w.heap.size,0,none⟩) (fun e=>by have e2:w.heap.size=w.heap.size+1:=e;omega) (HBV.out.2 0 (by omega)).1,hW.cell (p:=⟨w.heap.size,4,none⟩) (fun e=>by have e2:w.heap.size=w.heap.size+1:=e;omega) (HBV.out.2 4 (by omega)).1,hW.cell (p:=⟨w.heap.size,8,none⟩) (fun e=>by have e2:w.heap.size=w.heap.size+1:=e;omega) (HBV.out.2 8 (by omega)).1⟩
  have hz2:w.heap.size+2≤wa.heap.size:=HTB.out.1.1
  have w1:IntKind.u64.wrap (text.size:Int)=(text.size:Int):=by rw [IntKind.wrap_u64];omega
  have HP:=Lib.hid (fun W=>putHigh_calls text.size 4 (by unfold okSize;omega) W)
  obtain ⟨l7,hl7⟩:∃ l,l=putHighS text.size 4:=⟨_,rfl⟩
  have HL7:Hid (l7.length=4):=Lib.hid (by rw [hl7];exact putHighS_len4 text.size)
  rw [← hl7] at HP
  have HC2:=Lib.hid hm
  have HVW:=Lib.hid hw
  have HTX:Hid (text.size≤40000):=Lib.hid (by omega)
  have HF9:Hid (9+20 * f.wt≤1000001):=Lib.hid (by omega)
  clear hm hw ht9 hl7
  clear hS hTB hBV
  go_enter Tryz.func43,Tryz.ntmps43
  go_upto_region 39 with fail
  rw [← hwa]
  clear hwa
  have hx0:Chg (fun k=>k=w.heap.size+1) wa wa:=Chg.refl _ _
  obtain ⟨-,f0,f4,f8⟩:=HKS.out wa hx0
  have hbw:Below wa.heap.size wa wa:=Below.refl _ _
  go_region_held3 (fun W=>Hid (Chg (fun k=>k=w.heap.size+1) wa W)∧W.cell? ⟨w.heap.size,0,none⟩=some (.int .i64 15)∧W.cell? ⟨w.heap.size,4,none⟩=some (.string text)∧W.cell? ⟨w.heap.size,8,none⟩=some (.slice ak nk ck)) (first|((with_reducible refine HKS.out _ ?_);(repeat' (first|with_reducible assumption|with_reducible refine Chg.set2 ?_ (by exact rfl) _ _|with_reducible apply Chg.drew|with_reducible refine Chg.alloc ?_ _|with_reducible exact Chg.refl _ _));done)|fail)
    ((first
      | (go_at_call 40;(with_reducible refine (HP.out _).mono ?_);rintro e w7 ⟨u7,rfl,ho,hb⟩;have hxw7:=below_then3' (a:=wa) (by (repeat' (first|with_reducible assumption|with_reducible exact HSu7.out.bel|with_reducible exact HSu8.out.bel|with_reducible exact HSu9.out.bel|with_reducible refine Below.drew ?_|with_reducible refine Below.alloc ?_ (by first|omega|exact Nat.le_refl _|(simp;omega)) _|with_reducible exact Below.refl _ _))) hb;have hsw7:=hxw7.size;have hzw7:Chg (fun k=>k=w.heap.size+1) wa w7:=Chg.of_below hxw7;have HSu7:Hid (St wa u7 l7 w7):=Lib.hid ⟨ho.weaken (by first|omega|exact Nat.le_refl _|(simp;omega)),hxw7⟩;clear ho hb)
      | (refine arm_txt (w:=wa) (v:=u7) (bs:=l7) (t:=text) (by rfl) _ _ (by rfl) (by rfl) (by rfl) ?_ ?_ ?_;(case _=>((repeat' (first|with_reducible exact HSu7.out|with_reducible refine St.drew ?_))));(case _=>(have:=HL7.out;have:=HTX.out;omega));rintro u8 w8 hst hl;have HSu8:=Lib.hid hst;have hx8:=hst.bel;have hs8:=hx8.size;have hz8:Chg (fun k=>k=w.heap.size+1) wa w8:=Chg.of_below hx8;clear hst hl)
      | (go_at_call 24;(with_reducible refine (HC2.out _ ?_).mono ?_);(case _=>exact HTB.out.2.trans (Below.mono (show Below wa.heap.size wa _ from (by (repeat' (first|with_reducible assumption|with_reducible exact HSu7.out.bel|with_reducible exact HSu8.out.bel|with_reducible exact HSu9.out.bel|with_reducible refine Below.drew ?_|with_reducible refine Below.alloc ?_ (by first|omega|exact Nat.le_refl _|(simp;omega)) _|with_reducible exact Below.refl _ _)))) HTB.out.2.size));rintro e w10 ⟨a9,n9,c9,g9,rfl,hs,hr9,hl9,hn9,hev,hge,hgw,hb⟩;(try have hyb:=below_then3' (a:=w8) (by (repeat' (first|with_reducible assumption|with_reducible exact HSu7.out.bel|with_reducible exact HSu8.out.bel|with_reducible exact HSu9.out.bel|with_reducible refine Below.drew ?_|with_reducible refine Below.alloc ?_ (by first|omega|exact Nat.le_refl _|(simp;omega)) _|with_reducible exact Below.refl _ _))) hb);have hx10:=below_then3' (a:=wa) (by (repeat' (first|with_reducible assumption|with_reducible exact HSu7.out.bel|with_reducible exact HSu8.out.bel|with_reducible exact HSu9.out.bel|with_reducible refine Below.drew ?_|with_reducible refine Below.alloc ?_ (by first|omega|exact Nat.le_refl _|(simp;omega)) _|with_reducible exact Below.refl _ _))) hb;have hs10:=hx10.size;have hz10:Chg (fun k=>k=w.heap.size+1) wa w10:=Chg.of_below hx10;have HG9:Hid (RdIt (fun _=>True) w10 (.mk 6 0 [] emB g9) (itCells 6 0 none 0 0 ⟨#[]⟩ a9 n9 c9)):=Lib.hid (rdit_map (RdIs.imp (fun _ _ _=>trivial) hs) hl9 hn9 hr9);have HOK9:Hid (OkM (.mk 6 0 [] emB g9)):=Lib.hid (ok_map g9 (by omega) hge);have HSZ9:Hid (szM (.mk 6 0 [] emB g9)≤9+20 * f.wt):=Lib.hid (by rw [sz_map];omega);clear hs hr9 hl9 hn9 hev hge hgw hb)
      | (go_at_call 26;(with_reducible refine (lay29_ex (.mk 6 0 [] emB g9) (Nat.le_trans HSZ9.out HF9.out) HOK9.out _ _ (HG9.out.below ?_)).mono ?_);(case _=>(repeat' (first|with_reducible assumption|with_reducible exact HSu7.out.bel|with_reducible exact HSu8.out.bel|with_reducible exact HSu9.out.bel|with_reducible refine Below.drew ?_|with_reducible refine Below.alloc ?_ (by first|omega|exact Nat.le_refl _|(simp;omega)) _|with_reducible exact Below.refl _ _)));rintro e w11 ⟨L,hL,uL,rfl,hsL⟩;(try have hyb:=below_then3' (a:=w8) (by (repeat' (first|with_reducible assumption|with_reducible exact HSu7.out.bel|with_reducible exact HSu8.out.bel|with_reducible exact HSu9.out.bel|with_reducible refine Below.drew ?_|with_reducible refine Below.alloc ?_ (by first|omega|exact Nat.le_refl _|(simp;omega)) _|with_reducible exact Below.refl _ _))) hsL.bel);have hx11:=below_then3' (a:=wa) (by (repeat' (first|with_reducible assumption|with_reducible exact HSu7.out.bel|with_reducible exact HSu8.out.bel|with_reducible exact HSu9.out.bel|with_reducible refine Below.drew ?_|with_reducible refine Below.alloc ?_ (by first|omega|exact Nat.le_refl _|(simp;omega)) _|with_reducible exact Below.refl _ _))) hsL.bel;have hs11:=hx11.size;have hz11:Chg (fun k=>k=w.heap.size+1) wa w11:=Chg.of_below hx11;have HSuL:Hid (SrcB w11 uL L):=Lib.hid hsL.1.srcB;have HLL:Hid (L.length≤9+20 * f.wt):=Lib.hid (Nat.le_trans hL.len HSZ9.out);obtain ⟨N9,hN9⟩:∃ N,N=(l7++sl text++L).length:=⟨_,rfl⟩;have HLZ:Hid ((l7++sl text++L).length=N9):=Lib.hid hN9.symm;have HW:Hid (szM (extI T (l7++sl text++L))+9≤20 * t.wt):=Lib.hid (ext_len HL7.out HLL.out HVW.out);clear hL hsL hN9)
      | (refine arm_row (w:=wa) (v:=u8) (u:=uL) (bs:=l7++sl text) (l:=L) (by rfl) _ _ (by rfl) (by rfl) (by rfl) ?_ ?_ ?_ ?_;(case _=>((with_reducible refine HSu8.out.keep ?_);(repeat' (first|with_reducible assumption|with_reducible exact HSu7.out.bel|with_reducible exact HSu8.out.bel|with_reducible exact HSu9.out.bel|with_reducible refine Below.drew ?_|with_reducible refine Below.alloc ?_ (by first|omega|exact Nat.le_refl _|(simp;omega)) _|with_reducible exact Below.refl _ _))));(case _=>((with_reducible refine HSuL.out.keep ?_);(repeat' (first|with_reducible assumption|with_reducible exact HSu7.out.bel|with_reducible exact HSu8.out.bel|with_reducible exact HSu9.out.bel|with_reducible refine Below.drew ?_|with_reducible refine Below.alloc ?_ (by first|omega|exact Nat.le_refl _|(simp;omega)) _|with_reducible exact Below.refl _ _))));(case _=>(have h1:=HL7.out;have h2:=HTX.out;have h3:=HLL.out;have h4:=HF9.out;have h5:=sl_len text;simp only [List.length_append];omega));rintro u9 w9 hst hl;have HSu9:=Lib.hid hst;have hx9:=hst.bel;have hs9:=hx9.size;have hz9:Chg (fun k=>k=w.heap.size+1) wa w9:=Chg.of_below hx9;obtain ⟨aZ,cZ,rfl,HRZ,HOZ⟩:=ext_of (S0:=S0) HSu9.out hz2;rw [HLZ.out] at HRZ HOZ ⊢;clear hst hl)
      | (go_at_call 64;(with_reducible refine (HX.out aZ N9 cZ _).mono ?_);rintro e w6 ⟨rfl,hb6⟩;have hx6:=below_then3' (a:=wa) (by (repeat' (first|with_reducible assumption|with_reducible exact HSu7.out.bel|with_reducible exact HSu8.out.bel|with_reducible exact HSu9.out.bel|with_reducible refine Below.drew ?_|with_reducible refine Below.alloc ?_ (by first|omega|exact Nat.le_refl _|(simp;omega)) _|with_reducible exact Below.refl _ _))) hb6;have hz6:Chg (fun k=>k=w.heap.size+1) wa w6:=Chg.of_below hx6;have HB6:=Lib.hid (HTB.out.2.trans (hx6.mono HTB.out.2.size));have HX6:=Lib.hid (HTB.out.1.keep hx6);have HI6:=Lib.hid (show RdIt (fun k=>S0 k∨w.heap.size+2≤k) w6 _ _ from rdit_ext T (by have:=HT9.out;omega) (HRZ.out.chgZ (below_then3' (a:=w9) (by (repeat' (first|with_reducible assumption|with_reducible exact HSu7.out.bel|with_reducible exact HSu8.out.bel|with_reducible exact HSu9.out.bel|with_reducible refine Below.drew ?_|with_reducible refine Below.alloc ?_ (by first|omega|exact Nat.le_refl _|(simp;omega)) _|with_reducible exact Below.refl _ _))) hb6)) HOZ.out);obtain ⟨p0,p1,p2,p3,p4,r0,r1,r2,r3,r4,r5⟩:=HX6.out.zs;clear hb6)
      | fail))
  all_goals
   go_wp2_with fail
   refine bodyPost_ret (v:=.agg (itCells 10 T aZ N9 cZ ⟨#[]⟩ none 0 0)) (by simp [results,Tryz.results43,go_sem, *]) rfl ?_
   refine mt_fin HS.out HI6.out (ok_ext T _ HT9.out) HW.out HB6.out ?_
   iterate 5 (refine Chg.set2 ?_ (by exact rfl) _ _)
   exact Chg.refl _ _
end Go.Proofs.YtmooaepbdmengaaGreatDoor
