/- Parts of the proof of SniffWritten: ItH, ItI, ItJ, ItK. -/
import Derived.Test.YtmooaepbdmengaaGreatDoorZ12
import Derived.Test.YtmooaepbdmengaaGreatDoorZ06
namespace Go.Proofs.YtmooaepbdmengaaGreatDoor
open Go.RowKit
set_option linter.unusedVariables false
set_option linter.unusedSimpArgs false
set_option maxRecDepth 100000 in
set_option maxHeartbeats 4000000 in
theorem item_11 (S0:Nat→Prop) (t:T) (w:World) (hS:∀ k,S0 k→k < w.heap.size) (bits hi lo:Nat) (text more:ByteArray) (sub:Int) (ab:Option Addr) (nb cb:Nat) (ak:Option Addr) (nk ck:Nat) (hn1:text.size≤9223372036854775807) (hn2:more.size≤9223372036854775807) (hw:text.size+more.size+2≤t.wt) (ht1:(wholeTo (sl text) == text.size)=true) (ht2:(wholeTo (sl more) == more.size)=true):Calls Tryz.prog 37 #[.agg (valCells 11 bits hi lo text more sub ab nb cb ak nk ck)] w (ItOut S0 t w):=by
  have hTB:=two_boxes w (valCells 11 bits hi lo text more sub ab nb cb ak nk ck)
  obtain ⟨wa,hwa⟩:∃ W,W=((w.alloc (.cells (valCells 11 bits hi lo text more sub ab nb cb ak nk ck) 26)).alloc (.cells #[.int .i64 0,.int .u64 0,.slice none 0 0,.string ⟨#[]⟩,.slice none 0 0] 39)):=⟨_,rfl⟩
  have hTB:BoxI wa (w.heap.size+1) z5∧Below w.heap.size w wa:=by rw [hwa];exact hTB
  have hBV:BoxV wa w.heap.size (valCells 11 bits hi lo text more sub ab nb cb ak nk ck):=by rw [hwa];exact (BoxV.new w _ _).keep ((Below.refl _ _).alloc (Nat.le_refl _) _)
  have HTB:=Lib.hid hTB
  have HBV:=Lib.hid hBV
  have HS:=Lib.hid hS
  have HN1:=Lib.hid hn1
  have HN2:=Lib.hid hn2
  have HEE:Hid (errI (listI (.cons (txtI text) (.cons (txtI more) .nil)))=0):=Lib.hid (err_list _ (errIs_cons _ _ (err_txt text ht1) (errIs_cons _ _ (err_txt more ht2) rfl)))
  have HWW:Hid (9+(listI (.cons (txtI text) (.cons (txtI more) .nil))).zt+5≤18 * t.wt):=Lib.hid (by rw [zt_list];simp only [IL.zt,zt_txt];omega)
  have HC1:=Lib.hid (fun W=>text28_calls text W)
  have HC2:=Lib.hid (fun W=>text28_calls more W)
  have HL:=Lib.hid (fun a n c W=>list28_calls a n c W)
  clear hn1 hn2 hw ht1 ht2
  obtain ⟨T,hT⟩:∃ T:Nat,T=1000+11:=⟨_,rfl⟩
  have HT:Hid (∀ (k':Int) (n':Nat) (ab':Option Addr) (nb' cb':Nat) (tx':ByteArray) (ak':Option Addr) (nk' ck':Nat) (W:World),Calls Tryz.prog 60 #[.int .i64 11,.agg (itCells k' n' ab' nb' cb' tx' ak' nk' ck')] W (TagO T (itCells k' n' ab' nb' cb' tx' ak' nk' ck') W)):=Lib.hid fun k' n' ab' nb' cb' tx' ak' nk' ck' W=>by rw [hT];exact tag28_calls 11 (by omega) k' n' ab' nb' cb' tx' ak' nk' ck' W
  have HKS:Hid (∀ W,Chg (fun k=>k=w.heap.size+1) wa W→Hid (Chg (fun k=>k=w.heap.size+1) wa W)∧W.cell? ⟨w.heap.size,0,none⟩=some (.int .i64 11)∧W.cell? ⟨w.heap.size,4,none⟩=some (.string text)∧W.cell? ⟨w.heap.size,5,none⟩=some (.string more)):=Lib.hid fun W hW=>⟨Lib.hid hW,hW.cell (p:=⟨w.heap.size,0,none⟩) (fun e=>by have e2:w.heap.size=w.heap.size+1:=e;omega) (HBV.out.2 0 (by omega)).1,hW.cell (p:=⟨w.heap.size,4,none⟩) (fun e=>by have e2:w.heap.size=w.heap.size+1:=e;omega) (HBV.out.2 4 (by omega)).1,hW.cell (p:=⟨w.heap.size,5,none⟩) (fun e=>by have e2:w.heap.size=w.heap.size+1:=e;omega) (HBV.out.2 5 (by omega)).1⟩
  have HT1:=Lib.hid hT
  have hz2:w.heap.size+2≤wa.heap.size:=HTB.out.1.1
  clear hS hTB hBV hT
  go_enter Tryz.func37,Tryz.ntmps37
  go_upto_region 33 with fail
  rw [← hwa]
  clear hwa
  have hx0:Chg (fun k=>k=w.heap.size+1) wa wa:=Chg.refl _ _
  obtain ⟨-,f0,f4,f5⟩:=HKS.out wa hx0
  have hbw:Below wa.heap.size wa wa:=Below.refl _ _
  go_region_held3 (fun W=>Hid (Chg (fun k=>k=w.heap.size+1) wa W)∧W.cell? ⟨w.heap.size,0,none⟩=some (.int .i64 11)∧W.cell? ⟨w.heap.size,4,none⟩=some (.string text)∧W.cell? ⟨w.heap.size,5,none⟩=some (.string more)) (first|((with_reducible refine HKS.out _ ?_);(repeat' (first|with_reducible assumption|with_reducible refine Chg.set2 ?_ (by exact rfl) _ _|with_reducible apply Chg.drew|with_reducible refine Chg.alloc ?_ _|with_reducible exact Chg.refl _ _));done)|fail)
    ((first
      | (go_at_call 36;(with_reducible refine (HC1.out _).mono ?_);rintro e w7 ⟨rfl,hb⟩;have hxw7:=below_then3' (a:=wa) (by (repeat' (first|with_reducible assumption|with_reducible refine Below.drew ?_|with_reducible refine Below.alloc ?_ (by first|omega|exact Nat.le_refl _|(simp;omega)) _|with_reducible exact Below.refl _ _))) hb;have hsw7:=hxw7.size;have hzw7:Chg (fun k=>k=w.heap.size+1) wa w7:=Chg.of_below hxw7;clear hb)
      | (go_at_call 36;(with_reducible refine (HC2.out _).mono ?_);rintro e w8 ⟨rfl,hb⟩;have hxw8:=below_then3' (a:=wa) (by (repeat' (first|with_reducible assumption|with_reducible refine Below.drew ?_|with_reducible refine Below.alloc ?_ (by first|omega|exact Nat.le_refl _|(simp;omega)) _|with_reducible exact Below.refl _ _))) hb;have hsw8:=hxw8.size;have hzw8:Chg (fun k=>k=w.heap.size+1) wa w8:=Chg.of_below hxw8;clear hb)
      | (go_at_call 61;(with_reducible refine (HL.out (some ⟨w7.heap.size,0,none⟩) 2 2 _).mono ?_);rintro e w5 ⟨rfl,hb⟩;have hx5:=below_then3' (a:=wa) (by (repeat' (first|with_reducible assumption|with_reducible refine Below.drew ?_|with_reducible refine Below.alloc ?_ (by first|omega|exact Nat.le_refl _|(simp;omega)) _|with_reducible exact Below.refl _ _))) hb;have hs5:=hx5.size;have hz5:Chg (fun k=>k=w.heap.size+1) wa w5:=Chg.of_below hx5;have HIT:=Lib.hid (show RdIt (fun k=>S0 k∨w.heap.size+2≤k) w5 (listI (.cons (txtI text) (.cons (txtI more) .nil))) _ from rdit_list (n:=2) (c:=2) (rdis_two (RdIt_txt HN1.out) (RdIt_txt HN2.out) (.inr (by omega)) (fun j u h=>cell_below hb (new_cells w7 _ _ _ rfl j u h))) rfl (by decide) ⟨by simp,Nat.le_refl _⟩);have HE:Hid (errI (listI (.cons (txtI text) (.cons (txtI more) .nil)))=0):=Lib.hid HEE.out;have HW:Hid (9+(listI (.cons (txtI text) (.cons (txtI more) .nil))).zt+5≤18 * t.wt):=Lib.hid HWW.out;clear hb)
      | (go_at_call 61;(with_reducible refine (HL.out (some ⟨w8.heap.size,0,none⟩) 2 2 _).mono ?_);rintro e w5 ⟨rfl,hb⟩;have hx5:=below_then3' (a:=wa) (by (repeat' (first|with_reducible assumption|with_reducible refine Below.drew ?_|with_reducible refine Below.alloc ?_ (by first|omega|exact Nat.le_refl _|(simp;omega)) _|with_reducible exact Below.refl _ _))) hb;have hs5:=hx5.size;have hz5:Chg (fun k=>k=w.heap.size+1) wa w5:=Chg.of_below hx5;have HIT:=Lib.hid (show RdIt (fun k=>S0 k∨w.heap.size+2≤k) w5 (listI (.cons (txtI text) (.cons (txtI more) .nil))) _ from rdit_list (n:=2) (c:=2) (rdis_two (RdIt_txt HN1.out) (RdIt_txt HN2.out) (.inr (by omega)) (fun j u h=>cell_below hb (new_cells w8 _ _ _ rfl j u h))) rfl (by decide) ⟨by simp,Nat.le_refl _⟩);have HE:Hid (errI (listI (.cons (txtI text) (.cons (txtI more) .nil)))=0):=Lib.hid HEE.out;have HW:Hid (9+(listI (.cons (txtI text) (.cons (txtI more) .nil))).zt+5≤18 * t.wt):=Lib.hid HWW.out;clear hb)
      | (go_at_call 60;(with_reducible refine (HT.out _ _ _ _ _ _ _ _ _ _).mono ?_);rintro e w6 ⟨g6,rfl,hg6,hc6,hb6⟩;have hx6:=below_then3' (a:=wa) (by (repeat' (first|with_reducible assumption|with_reducible refine Below.drew ?_|with_reducible exact Below.refl _ _))) hb6;have hz6:Chg (fun k=>k=w.heap.size+1) wa w6:=Chg.of_below hx6;have HB6:=Lib.hid (HTB.out.2.trans (hx6.mono HTB.out.2.size));have HX6:=Lib.hid (HTB.out.1.keep hx6);have HI6:=Lib.hid (HIT.out.below (below_then3' (by (repeat' (first|with_reducible assumption|with_reducible refine Below.drew ?_|with_reducible exact Below.refl _ _))) hb6));have HG6:Hid (w.heap.size+2≤g6):=Lib.hid (by first|omega|(simp at hg6;omega));have HC6:=Lib.hid hc6;obtain ⟨p0,p1,p2,p3,p4,r0,r1,r2,r3,r4,r5⟩:=HX6.out.zs;clear hg6 hc6 hb6)
      | fail))
  all_goals
   go_wp2_with fail
   refine bodyPost_ret (v:=.agg (itCells 7 T none 0 0 ⟨#[]⟩ (some ⟨g6,0,none⟩) 1 1)) (by simp [results,Tryz.results37,go_sem, *]) rfl ?_
   have HR6:=rdit_tag 11 (by omega) HI6.out (.inr HG6.out) HC6.out
   rw [← HT1.out] at HR6
   refine it_fin HS.out HR6 (err_tag _ _ HE.out) (by rw [zt_tag];exact HW.out) HB6.out ?_
   iterate 5 (refine Chg.set2 ?_ (by exact rfl) _ _)
   exact Chg.refl _ _
set_option maxRecDepth 100000 in
set_option maxHeartbeats 4000000 in
theorem item_12 (S0:Nat→Prop) (t:T) (w:World) (hS:∀ k,S0 k→k < w.heap.size) (bits hi lo:Nat) (text more:ByteArray) (sub:Int) (ab:Option Addr) (nb cb:Nat) (ak:Option Addr) (nk ck:Nat) (bs:List UInt8) (hbs:RdBS S0 w ab nb bs) (hro:Roomy ab nb cb) (hn1:text.size≤9223372036854775807) (hw:text.size+bs.length+2≤t.wt) (ht1:(wholeTo (sl text) == text.size)=true):Calls Tryz.prog 37 #[.agg (valCells 12 bits hi lo text more sub ab nb cb ak nk ck)] w (ItOut S0 t w):=by
  have hTB:=two_boxes w (valCells 12 bits hi lo text more sub ab nb cb ak nk ck)
  obtain ⟨wa,hwa⟩:∃ W,W=((w.alloc (.cells (valCells 12 bits hi lo text more sub ab nb cb ak nk ck) 26)).alloc (.cells #[.int .i64 0,.int .u64 0,.slice none 0 0,.string ⟨#[]⟩,.slice none 0 0] 39)):=⟨_,rfl⟩
  have hTB:BoxI wa (w.heap.size+1) z5∧Below w.heap.size w wa:=by rw [hwa];exact hTB
  have hBV:BoxV wa w.heap.size (valCells 12 bits hi lo text more sub ab nb cb ak nk ck):=by rw [hwa];exact (BoxV.new w _ _).keep ((Below.refl _ _).alloc (Nat.le_refl _) _)
  have HTB:=Lib.hid hTB
  have HBV:=Lib.hid hBV
  have HS:=Lib.hid hS
  have HN1:=Lib.hid hn1
  have HR:=Lib.hid hbs
  have HO:=Lib.hid hro
  have HEE:Hid (errI (listI (.cons (txtI text) (.cons (dataI bs) .nil)))=0):=Lib.hid (err_list _ (errIs_cons _ _ (err_txt text ht1) (errIs_cons _ _ (err_data bs) rfl)))
  have HWW:Hid (9+(listI (.cons (txtI text) (.cons (dataI bs) .nil))).zt+5≤18 * t.wt):=Lib.hid (by rw [zt_list];simp only [IL.zt,zt_txt,zt_data];omega)
  have HC1:=Lib.hid (fun W=>text28_calls text W)
  have HC2:=Lib.hid (fun W=>data28_calls ab nb cb W)
  have HL:=Lib.hid (fun a n c W=>list28_calls a n c W)
  clear hn1 hbs hro hw ht1
  obtain ⟨T,hT⟩:∃ T:Nat,T=1000+12:=⟨_,rfl⟩
  have HT:Hid (∀ (k':Int) (n':Nat) (ab':Option Addr) (nb' cb':Nat) (tx':ByteArray) (ak':Option Addr) (nk' ck':Nat) (W:World),Calls Tryz.prog 60 #[.int .i64 12,.agg (itCells k' n' ab' nb' cb' tx' ak' nk' ck')] W (TagO T (itCells k' n' ab' nb' cb' tx' ak' nk' ck') W)):=Lib.hid fun k' n' ab' nb' cb' tx' ak' nk' ck' W=>by rw [hT];exact tag28_calls 12 (by omega) k' n' ab' nb' cb' tx' ak' nk' ck' W
  have HKS:Hid (∀ W,Chg (fun k=>k=w.heap.size+1) wa W→Hid (Chg (fun k=>k=w.heap.size+1) wa W)∧W.cell? ⟨w.heap.size,0,none⟩=some (.int .i64 12)∧W.cell? ⟨w.heap.size,4,none⟩=some (.string text)∧W.cell? ⟨w.heap.size,7,none⟩=some (.slice ab nb cb)):=Lib.hid fun W hW=>⟨Lib.hid hW,hW.cell (p:=⟨w.heap.size,0,none⟩) (fun e=>by have e2:w.heap.size=w.heap.size+1:=e;omega) (HBV.out.2 0 (by omega)).1,hW.cell (p:=⟨w.heap.size,4,none⟩) (fun e=>by have e2:w.heap.size=w.heap.size+1:=e;omega) (HBV.out.2 4 (by omega)).1,hW.cell (p:=⟨w.heap.size,7,none⟩) (fun e=>by have e2:w.heap.size=w.heap.size+1:=e;omega) (HBV.out.2 7 (by omega)).1⟩
  have HT1:=Lib.hid hT
  have hz2:w.heap.size+2≤wa.heap.size:=HTB.out.1.1
  clear hS hTB hBV hT
  go_enter Tryz.func37,Tryz.ntmps37
  go_upto_region 35 with fail
  rw [← hwa]
  clear hwa
  have hx0:Chg (fun k=>k=w.heap.size+1) wa wa:=Chg.refl _ _
  obtain ⟨-,f0,f4,f7⟩:=HKS.out wa hx0
  have hbw:Below wa.heap.size wa wa:=Below.refl _ _
  go_region_held3 (fun W=>Hid (Chg (fun k=>k=w.heap.size+1) wa W)∧W.cell? ⟨w.heap.size,0,none⟩=some (.int .i64 12)∧W.cell? ⟨w.heap.size,4,none⟩=some (.string text)∧W.cell? ⟨w.heap.size,7,none⟩=some (.slice ab nb cb)) (first|((with_reducible refine HKS.out _ ?_);(repeat' (first|with_reducible assumption|with_reducible refine Chg.set2 ?_ (by exact rfl) _ _|with_reducible apply Chg.drew|with_reducible refine Chg.alloc ?_ _|with_reducible exact Chg.refl _ _));done)|fail)
    ((first
      | (go_at_call 36;(with_reducible refine (HC1.out _).mono ?_);rintro e w7 ⟨rfl,hb⟩;have hxw7:=below_then3' (a:=wa) (by (repeat' (first|with_reducible assumption|with_reducible refine Below.drew ?_|with_reducible refine Below.alloc ?_ (by first|omega|exact Nat.le_refl _|(simp;omega)) _|with_reducible exact Below.refl _ _))) hb;have hsw7:=hxw7.size;have hzw7:Chg (fun k=>k=w.heap.size+1) wa w7:=Chg.of_below hxw7;clear hb)
      | (go_at_call 62;(with_reducible refine (HC2.out _).mono ?_);rintro e w8 ⟨rfl,hb⟩;have hxw8:=below_then3' (a:=wa) (by (repeat' (first|with_reducible assumption|with_reducible refine Below.drew ?_|with_reducible refine Below.alloc ?_ (by first|omega|exact Nat.le_refl _|(simp;omega)) _|with_reducible exact Below.refl _ _))) hb;have hsw8:=hxw8.size;have hzw8:Chg (fun k=>k=w.heap.size+1) wa w8:=Chg.of_below hxw8;clear hb)
      | (go_at_call 61;(with_reducible refine (HL.out (some ⟨w7.heap.size,0,none⟩) 2 2 _).mono ?_);rintro e w5 ⟨rfl,hb⟩;have hx5:=below_then3' (a:=wa) (by (repeat' (first|with_reducible assumption|with_reducible refine Below.drew ?_|with_reducible refine Below.alloc ?_ (by first|omega|exact Nat.le_refl _|(simp;omega)) _|with_reducible exact Below.refl _ _))) hb;have hs5:=hx5.size;have hz5:Chg (fun k=>k=w.heap.size+1) wa w5:=Chg.of_below hx5;have HIT:=Lib.hid (show RdIt (fun k=>S0 k∨w.heap.size+2≤k) w5 (listI (.cons (txtI text) (.cons (dataI bs) .nil))) _ from rdit_list (n:=2) (c:=2) (rdis_two (RdIt_txt HN1.out) (rdit_data (bs:=bs) ⟨(HR.out.keep (KeepS.below (HTB.out.2.trans (hx5.mono HTB.out.2.size)))).1,fun h p hp=>.inl (HR.out.2 h p hp)⟩ HO.out) (.inr (by omega)) (fun j u h=>cell_below hb (new_cells w7 _ _ _ rfl j u h))) rfl (by decide) ⟨by simp,Nat.le_refl _⟩);have HE:Hid (errI (listI (.cons (txtI text) (.cons (dataI bs) .nil)))=0):=Lib.hid HEE.out;have HW:Hid (9+(listI (.cons (txtI text) (.cons (dataI bs) .nil))).zt+5≤18 * t.wt):=Lib.hid HWW.out;clear hb)
      | (go_at_call 61;(with_reducible refine (HL.out (some ⟨w8.heap.size,0,none⟩) 2 2 _).mono ?_);rintro e w5 ⟨rfl,hb⟩;have hx5:=below_then3' (a:=wa) (by (repeat' (first|with_reducible assumption|with_reducible refine Below.drew ?_|with_reducible refine Below.alloc ?_ (by first|omega|exact Nat.le_refl _|(simp;omega)) _|with_reducible exact Below.refl _ _))) hb;have hs5:=hx5.size;have hz5:Chg (fun k=>k=w.heap.size+1) wa w5:=Chg.of_below hx5;have HIT:=Lib.hid (show RdIt (fun k=>S0 k∨w.heap.size+2≤k) w5 (listI (.cons (txtI text) (.cons (dataI bs) .nil))) _ from rdit_list (n:=2) (c:=2) (rdis_two (RdIt_txt HN1.out) (rdit_data (bs:=bs) ⟨(HR.out.keep (KeepS.below (HTB.out.2.trans (hx5.mono HTB.out.2.size)))).1,fun h p hp=>.inl (HR.out.2 h p hp)⟩ HO.out) (.inr (by omega)) (fun j u h=>cell_below hb (new_cells w8 _ _ _ rfl j u h))) rfl (by decide) ⟨by simp,Nat.le_refl _⟩);have HE:Hid (errI (listI (.cons (txtI text) (.cons (dataI bs) .nil)))=0):=Lib.hid HEE.out;have HW:Hid (9+(listI (.cons (txtI text) (.cons (dataI bs) .nil))).zt+5≤18 * t.wt):=Lib.hid HWW.out;clear hb)
      | (go_at_call 60;(with_reducible refine (HT.out _ _ _ _ _ _ _ _ _ _).mono ?_);rintro e w6 ⟨g6,rfl,hg6,hc6,hb6⟩;have hx6:=below_then3' (a:=wa) (by (repeat' (first|with_reducible assumption|with_reducible refine Below.drew ?_|with_reducible exact Below.refl _ _))) hb6;have hz6:Chg (fun k=>k=w.heap.size+1) wa w6:=Chg.of_below hx6;have HB6:=Lib.hid (HTB.out.2.trans (hx6.mono HTB.out.2.size));have HX6:=Lib.hid (HTB.out.1.keep hx6);have HI6:=Lib.hid (HIT.out.below (below_then3' (by (repeat' (first|with_reducible assumption|with_reducible refine Below.drew ?_|with_reducible exact Below.refl _ _))) hb6));have HG6:Hid (w.heap.size+2≤g6):=Lib.hid (by first|omega|(simp at hg6;omega));have HC6:=Lib.hid hc6;obtain ⟨p0,p1,p2,p3,p4,r0,r1,r2,r3,r4,r5⟩:=HX6.out.zs;clear hg6 hc6 hb6)
      | fail))
  all_goals
   go_wp2_with fail
   refine bodyPost_ret (v:=.agg (itCells 7 T none 0 0 ⟨#[]⟩ (some ⟨g6,0,none⟩) 1 1)) (by simp [results,Tryz.results37,go_sem, *]) rfl ?_
   have HR6:=rdit_tag 12 (by omega) HI6.out (.inr HG6.out) HC6.out
   rw [← HT1.out] at HR6
   refine it_fin HS.out HR6 (err_tag _ _ HE.out) (by rw [zt_tag];exact HW.out) HB6.out ?_
   iterate 5 (refine Chg.set2 ?_ (by exact rfl) _ _)
   exact Chg.refl _ _
set_option maxRecDepth 100000 in
set_option maxHeartbeats 4000000 in
theorem item_5b (S0:Nat→Prop) (t:T) (w:World) (hS:∀ k,S0 k→k < w.heap.size) (bits hi lo:Nat) (text more:ByteArray) (sub:Int) (ab:Option Addr) (nb cb:Nat) (ak:Option Addr) (nk ck:Nat) (m:Nat) (hsm:sub=(m:Nat)) (hm0:m≠0) (hm1:m≤255) (bs:List UInt8) (hbs:RdBS S0 w ab nb bs) (hro:Roomy ab nb cb) (hw:bs.length+2≤t.wt):Calls Tryz.prog 37 #[.agg (valCells 5 bits hi lo text more sub ab nb cb ak nk ck)] w (ItOut S0 t w):=by
  have hTB:=two_boxes w (valCells 5 bits hi lo text more sub ab nb cb ak nk ck)
  obtain ⟨wa,hwa⟩:∃ W,W=((w.alloc (.cells (valCells 5 bits hi lo text more sub ab nb cb ak nk ck) 26)).alloc (.cells #[.int .i64 0,.int .u64 0,.slice none 0 0,.string ⟨#[]⟩,.slice none 0 0] 39)):=⟨_,rfl⟩
  have hTB:BoxI wa (w.heap.size+1) z5∧Below w.heap.size w wa:=by rw [hwa];exact hTB
  have hBV:BoxV wa w.heap.size (valCells 5 bits hi lo text more sub ab nb cb ak nk ck):=by rw [hwa];exact (BoxV.new w _ _).keep ((Below.refl _ _).alloc (Nat.le_refl _) _)
  have HTB:=Lib.hid hTB
  have HBV:=Lib.hid hBV
  have HS:=Lib.hid hS
  subst hsm
  have HM:=Lib.hid hm1
  have HR:=Lib.hid hbs
  have HO:=Lib.hid hro
  have m1:((m:Int) == 0)=false:=by simp;omega
  have m2:IntKind.u64.wrap (m:Int)=(m:Int):=by rw [IntKind.wrap_u64];omega
  have HEE:Hid (errI (listI (.cons (nuI 1 m) (.cons (dataI bs) .nil)))=0):=Lib.hid (err_list _ (errIs_cons _ _ (err_n1 m) (errIs_cons _ _ (err_data bs) rfl)))
  have HWW:Hid (9+(listI (.cons (nuI 1 m) (.cons (dataI bs) .nil))).zt+5≤18 * t.wt):=Lib.hid (by rw [zt_list];simp only [IL.zt,zt_data];have:=zt_nu 1 m;omega)
  have HC2:=Lib.hid (fun W=>data28_calls ab nb cb W)
  have HL:=Lib.hid (fun a n c W=>list28_calls a n c W)
  clear hbs hro hw hm0 hm1
  obtain ⟨T,hT⟩:∃ T:Nat,T=1000+5:=⟨_,rfl⟩
  have HT:Hid (∀ (k':Int) (n':Nat) (ab':Option Addr) (nb' cb':Nat) (tx':ByteArray) (ak':Option Addr) (nk' ck':Nat) (W:World),Calls Tryz.prog 60 #[.int .i64 5,.agg (itCells k' n' ab' nb' cb' tx' ak' nk' ck')] W (TagO T (itCells k' n' ab' nb' cb' tx' ak' nk' ck') W)):=Lib.hid fun k' n' ab' nb' cb' tx' ak' nk' ck' W=>by rw [hT];exact tag28_calls 5 (by omega) k' n' ab' nb' cb' tx' ak' nk' ck' W
  have HKS:Hid (∀ W,Chg (fun k=>k=w.heap.size+1) wa W→Hid (Chg (fun k=>k=w.heap.size+1) wa W)∧W.cell? ⟨w.heap.size,0,none⟩=some (.int .i64 5)∧W.cell? ⟨w.heap.size,6,none⟩=some (.int .i64 (m:Nat))∧W.cell? ⟨w.heap.size,7,none⟩=some (.slice ab nb cb)):=Lib.hid fun W hW=>⟨Lib.hid hW,hW.cell (p:=⟨w.heap.size,0,none⟩) (fun e=>by have e2:w.heap.size=w.heap.size+1:=e;omega) (HBV.out.2 0 (by omega)).1,hW.cell (p:=⟨w.heap.size,6,none⟩) (fun e=>by have e2:w.heap.size=w.heap.size+1:=e;omega) (HBV.out.2 6 (by omega)).1,hW.cell (p:=⟨w.heap.size,7,none⟩) (fun e=>by have e2:w.heap.size=w.heap.size+1:=e;omega) (HBV.out.2 7 (by omega)).1⟩
  have HT1:=Lib.hid hT
  have hz2:w.heap.size+2≤wa.heap.size:=HTB.out.1.1
  clear hS hTB hBV hT
  go_enter Tryz.func37,Tryz.ntmps37
  go_upto_region 20 with fail
  rw [← hwa]
  clear hwa
  have hx0:Chg (fun k=>k=w.heap.size+1) wa wa:=Chg.refl _ _
  obtain ⟨-,f0,f6,f7⟩:=HKS.out wa hx0
  have hbw:Below wa.heap.size wa wa:=Below.refl _ _
  go_region_held3 (fun W=>Hid (Chg (fun k=>k=w.heap.size+1) wa W)∧W.cell? ⟨w.heap.size,0,none⟩=some (.int .i64 5)∧W.cell? ⟨w.heap.size,6,none⟩=some (.int .i64 (m:Nat))∧W.cell? ⟨w.heap.size,7,none⟩=some (.slice ab nb cb)) (first|((with_reducible refine HKS.out _ ?_);(repeat' (first|with_reducible assumption|with_reducible refine Chg.set2 ?_ (by exact rfl) _ _|with_reducible apply Chg.drew|with_reducible refine Chg.alloc ?_ _|with_reducible exact Chg.refl _ _));done)|fail)
    ((first
      | (go_at_call 62;(with_reducible refine (HC2.out _).mono ?_);rintro e w8 ⟨rfl,hb⟩;have hxw8:=below_then3' (a:=wa) (by (repeat' (first|with_reducible assumption|with_reducible refine Below.drew ?_|with_reducible refine Below.alloc ?_ (by first|omega|exact Nat.le_refl _|(simp;omega)) _|with_reducible exact Below.refl _ _))) hb;have hsw8:=hxw8.size;have hzw8:Chg (fun k=>k=w.heap.size+1) wa w8:=Chg.of_below hxw8;clear hb)
      | (go_at_call 61;(with_reducible refine (HL.out (some ⟨w8.heap.size,0,none⟩) 2 2 _).mono ?_);rintro e w5 ⟨rfl,hb⟩;have hx5:=below_then3' (a:=wa) (by (repeat' (first|with_reducible assumption|with_reducible refine Below.drew ?_|with_reducible refine Below.alloc ?_ (by first|omega|exact Nat.le_refl _|(simp;omega)) _|with_reducible exact Below.refl _ _))) hb;have hs5:=hx5.size;have hz5:Chg (fun k=>k=w.heap.size+1) wa w5:=Chg.of_below hx5;have HIT:=Lib.hid (show RdIt (fun k=>S0 k∨w.heap.size+2≤k) w5 (listI (.cons (nuI 1 m) (.cons (dataI bs) .nil))) _ from rdit_list (n:=2) (c:=2) (rdis_two (rdit_num 1 m (by omega) (by have:=HM.out;unfold okSize;omega)) (rdit_data (bs:=bs) ⟨(HR.out.keep (KeepS.below (HTB.out.2.trans (hx5.mono HTB.out.2.size)))).1,fun h p hp=>.inl (HR.out.2 h p hp)⟩ HO.out) (.inr (by omega)) (fun j u h=>cell_below hb (new_cells w8 _ _ _ rfl j u h))) rfl (by decide) ⟨by simp,Nat.le_refl _⟩);have HE:Hid (errI (listI (.cons (nuI 1 m) (.cons (dataI bs) .nil)))=0):=Lib.hid HEE.out;have HW:Hid (9+(listI (.cons (nuI 1 m) (.cons (dataI bs) .nil))).zt+5≤18 * t.wt):=Lib.hid HWW.out;clear hb)
      | (go_at_call 60;(with_reducible refine (HT.out _ _ _ _ _ _ _ _ _ _).mono ?_);rintro e w6 ⟨g6,rfl,hg6,hc6,hb6⟩;have hx6:=below_then3' (a:=wa) (by (repeat' (first|with_reducible assumption|with_reducible refine Below.drew ?_|with_reducible exact Below.refl _ _))) hb6;have hz6:Chg (fun k=>k=w.heap.size+1) wa w6:=Chg.of_below hx6;have HB6:=Lib.hid (HTB.out.2.trans (hx6.mono HTB.out.2.size));have HX6:=Lib.hid (HTB.out.1.keep hx6);have HI6:=Lib.hid (HIT.out.below (below_then3' (by (repeat' (first|with_reducible assumption|with_reducible refine Below.drew ?_|with_reducible exact Below.refl _ _))) hb6));have HG6:Hid (w.heap.size+2≤g6):=Lib.hid (by first|omega|(simp at hg6;omega));have HC6:=Lib.hid hc6;obtain ⟨p0,p1,p2,p3,p4,r0,r1,r2,r3,r4,r5⟩:=HX6.out.zs;clear hg6 hc6 hb6)
      | fail))
  all_goals
   go_wp2_with fail
   refine bodyPost_ret (v:=.agg (itCells 7 T none 0 0 ⟨#[]⟩ (some ⟨g6,0,none⟩) 1 1)) (by simp [results,Tryz.results37,go_sem, *]) rfl ?_
   have HR6:=rdit_tag 5 (by omega) HI6.out (.inr HG6.out) HC6.out
   rw [← HT1.out] at HR6
   refine it_fin HS.out HR6 (err_tag _ _ HE.out) (by rw [zt_tag];exact HW.out) HB6.out ?_
   iterate 5 (refine Chg.set2 ?_ (by exact rfl) _ _)
   exact Chg.refl _ _
set_option maxRecDepth 100000 in
set_option maxHeartbeats 4000000 in
theorem item_15 (S0:Nat→Prop) (t:T) (w:World) (hS:∀ k,S0 k→k < w.heap.size) (bits hi lo:Nat) (text more:ByteArray) (sub:Int) (ab:Option Addr) (nb cb:Nat) (ak:Option Addr) (nk ck:Nat) (f:F) (hm:∀ W,Below w.heap.size w W→Calls Tryz.prog 20 #[.slice ak nk ck] W (MapOut S0 f W)) (hn1:text.size≤9223372036854775807) (hw:text.size+f.wt+2≤t.wt) (ht1:(wholeTo (sl text) == text.size)=true):Calls Tryz.prog 37 #[.agg (valCells 15 bits hi lo text more sub ab nb cb ak nk ck)] w (ItOut S0 t w):=by
  have hTB:=two_boxes w (valCells 15 bits hi lo text more sub ab nb cb ak nk ck)
  obtain ⟨wa,hwa⟩:∃ W,W=((w.alloc (.cells (valCells 15 bits hi lo text more sub ab nb cb ak nk ck) 26)).alloc (.cells #[.int .i64 0,.int .u64 0,.slice none 0 0,.string ⟨#[]⟩,.slice none 0 0] 39)):=⟨_,rfl⟩
  have hTB:BoxI wa (w.heap.size+1) z5∧Below w.heap.size w wa:=by rw [hwa];exact hTB
  have hBV:BoxV wa w.heap.size (valCells 15 bits hi lo text more sub ab nb cb ak nk ck):=by rw [hwa];exact (BoxV.new w _ _).keep ((Below.refl _ _).alloc (Nat.le_refl _) _)
  have HTB:=Lib.hid hTB
  have HBV:=Lib.hid hBV
  have HS:=Lib.hid hS
  have HN1:=Lib.hid hn1
  have HT8:=Lib.hid ht1
  have HV:=Lib.hid hw
  have HC1:=Lib.hid (fun W=>text28_calls text W)
  have HC2:=Lib.hid hm
  have HL:=Lib.hid (fun a n c W=>list28_calls a n c W)
  clear hn1 hm hw ht1
  obtain ⟨T,hT⟩:∃ T:Nat,T=1000+15:=⟨_,rfl⟩
  have HT:Hid (∀ (k':Int) (n':Nat) (ab':Option Addr) (nb' cb':Nat) (tx':ByteArray) (ak':Option Addr) (nk' ck':Nat) (W:World),Calls Tryz.prog 60 #[.int .i64 15,.agg (itCells k' n' ab' nb' cb' tx' ak' nk' ck')] W (TagO T (itCells k' n' ab' nb' cb' tx' ak' nk' ck') W)):=Lib.hid fun k' n' ab' nb' cb' tx' ak' nk' ck' W=>by rw [hT];exact tag28_calls 15 (by omega) k' n' ab' nb' cb' tx' ak' nk' ck' W
  have HKS:Hid (∀ W,Chg (fun k=>k=w.heap.size+1) wa W→Hid (Chg (fun k=>k=w.heap.size+1) wa W)∧W.cell? ⟨w.heap.size,0,none⟩=some (.int .i64 15)∧W.cell? ⟨w.heap.size,4,none⟩=some (.string text)∧W.cell? ⟨w.heap.size,8,none⟩=some (.slice ak nk ck)):=Lib.hid fun W hW=>⟨Lib.hid hW,hW.cell (p:=⟨w.heap.size,0,none⟩) (fun e=>by have e2:w.heap.size=w.heap.size+1:=e;omega) (HBV.out.2 0 (by omega)).1,hW.cell (p:=⟨w.heap.size,4,none⟩) (fun e=>by have e2:w.heap.size=w.heap.size+1:=e;omega) (HBV.out.2 4 (by omega)).1,hW.cell (p:=⟨w.heap.size,8,none⟩) (fun e=>by have e2:w.heap.size=w.heap.size+1:=e;omega) (HBV.out.2 8 (by omega)).1⟩
  have HT1:=Lib.hid hT
  have hz2:w.heap.size+2≤wa.heap.size:=HTB.out.1.1
  clear hS hTB hBV hT
  go_enter Tryz.func37,Tryz.ntmps37
  go_upto_region 40 with fail
  rw [← hwa]
  clear hwa
  have hx0:Chg (fun k=>k=w.heap.size+1) wa wa:=Chg.refl _ _
  obtain ⟨-,f0,f4,f8⟩:=HKS.out wa hx0
  have hbw:Below wa.heap.size wa wa:=Below.refl _ _
  go_region_held3 (fun W=>Hid (Chg (fun k=>k=w.heap.size+1) wa W)∧W.cell? ⟨w.heap.size,0,none⟩=some (.int .i64 15)∧W.cell? ⟨w.heap.size,4,none⟩=some (.string text)∧W.cell? ⟨w.heap.size,8,none⟩=some (.slice ak nk ck)) (first|((with_reducible refine HKS.out _ ?_);(repeat' (first|with_reducible assumption|with_reducible refine Chg.set2 ?_ (by exact rfl) _ _|with_reducible apply Chg.drew|with_reducible refine Chg.alloc ?_ _|with_reducible exact Chg.refl _ _));done)|fail)
    ((first
      | (go_at_call 36;(with_reducible refine (HC1.out _).mono ?_);rintro e w7 ⟨rfl,hb⟩;have hxw7:=below_then3' (a:=wa) (by (repeat' (first|with_reducible assumption|with_reducible refine Below.drew ?_|with_reducible refine Below.alloc ?_ (by first|omega|exact Nat.le_refl _|(simp;omega)) _|with_reducible exact Below.refl _ _))) hb;have hsw7:=hxw7.size;have hzw7:Chg (fun k=>k=w.heap.size+1) wa w7:=Chg.of_below hxw7;(try have hxx:=below_then3' (a:=w8) (by (repeat' (first|with_reducible assumption|with_reducible refine Below.drew ?_|with_reducible refine Below.alloc ?_ (by first|omega|exact Nat.le_refl _|(simp;omega)) _|with_reducible exact Below.refl _ _))) hb);clear hb)
      | (go_at_call 20;(with_reducible refine (HC2.out _ ?_).mono ?_);(case _=>exact HTB.out.2.trans (Below.mono (show Below wa.heap.size wa _ from by (repeat' (first|with_reducible assumption|with_reducible refine Below.drew ?_|with_reducible refine Below.alloc ?_ (by first|omega|exact Nat.le_refl _|(simp;omega)) _|with_reducible exact Below.refl _ _))) HTB.out.2.size));rintro e w8 ⟨a9,n9,c9,g9,rfl,hs,hr9,hl9,hn9,hev,hge,hgw,hb⟩;have hx8:=below_then3' (a:=wa) (by (repeat' (first|with_reducible assumption|with_reducible refine Below.drew ?_|with_reducible refine Below.alloc ?_ (by first|omega|exact Nat.le_refl _|(simp;omega)) _|with_reducible exact Below.refl _ _))) hb;have hs8:=hx8.size;have hz8:Chg (fun k=>k=w.heap.size+1) wa w8:=Chg.of_below hx8;have HG9:Hid (RdIt (fun k=>S0 k∨w.heap.size+2≤k) w8 (.mk 6 0 [] emB g9) (itCells 6 0 none 0 0 ⟨#[]⟩ a9 n9 c9)):=Lib.hid (rdit_map (RdIs.imp (fun i _ h=>h.imp id (fun h=>by first|omega|(simp at h;omega))) hs) hl9 hn9 hr9);have HEE:Hid (errI (listI (.cons (txtI text) (.cons (.mk 6 0 [] emB g9) .nil)))=0):=Lib.hid (err_list _ (errIs_cons _ _ (err_txt text HT8.out) (errIs_cons _ _ (err_map g9 (by omega) hge) rfl)));have HWW:Hid (9+(listI (.cons (txtI text) (.cons (.mk 6 0 [] emB g9) .nil))).zt+5≤18 * t.wt):=Lib.hid (by rw [zt_list];simp only [IL.zt,zt_txt,zt_map];have:=HV.out;omega);clear hs hr9 hl9 hn9 hev hge hgw hb)
      | (go_at_call 61;(with_reducible refine (HL.out (some ⟨w7.heap.size,0,none⟩) 2 2 _).mono ?_);rintro e w5 ⟨rfl,hb⟩;have hx5:=below_then3' (a:=wa) (by (repeat' (first|with_reducible assumption|with_reducible refine Below.drew ?_|with_reducible refine Below.alloc ?_ (by first|omega|exact Nat.le_refl _|(simp;omega)) _|with_reducible exact Below.refl _ _))) hb;have hs5:=hx5.size;have hz5:Chg (fun k=>k=w.heap.size+1) wa w5:=Chg.of_below hx5;have HIT:=Lib.hid (show RdIt (fun k=>S0 k∨w.heap.size+2≤k) w5 (listI (.cons (txtI text) (.cons (I.mk 6 0 [] emB g9) .nil))) _ from rdit_list (n:=2) (c:=2) (rdis_two (RdIt_txt HN1.out) (HG9.out.below (below_then3' (by (repeat' (first|with_reducible assumption|with_reducible refine Below.drew ?_|with_reducible refine Below.alloc ?_ (by first|omega|exact Nat.le_refl _|(simp;omega)) _|with_reducible exact Below.refl _ _))) hb)) (.inr (by omega)) (fun j u h=>cell_below hb (new_cells w7 _ _ _ rfl j u h))) rfl (by decide) ⟨by simp,Nat.le_refl _⟩);have HE:Hid (errI (listI (.cons (txtI text) (.cons (I.mk 6 0 [] emB g9) .nil)))=0):=Lib.hid HEE.out;have HW:Hid (9+(listI (.cons (txtI text) (.cons (I.mk 6 0 [] emB g9) .nil))).zt+5≤18 * t.wt):=Lib.hid HWW.out;clear hb)
      | (go_at_call 61;(with_reducible refine (HL.out (some ⟨w8.heap.size,0,none⟩) 2 2 _).mono ?_);rintro e w5 ⟨rfl,hb⟩;have hx5:=below_then3' (a:=wa) (by (repeat' (first|with_reducible assumption|with_reducible refine Below.drew ?_|with_reducible refine Below.alloc ?_ (by first|omega|exact Nat.le_refl _|(simp;omega)) _|with_reducible exact Below.refl _ _))) hb;have hs5:=hx5.size;have hz5:Chg (fun k=>k=w.heap.size+1) wa w5:=Chg.of_below hx5;have HIT:=Lib.hid (show RdIt (fun k=>S0 k∨w.heap.size+2≤k) w5 (listI (.cons (txtI text) (.cons (I.mk 6 0 [] emB g9) .nil))) _ from rdit_list (n:=2) (c:=2) (rdis_two (RdIt_txt HN1.out) (HG9.out.below (below_then3' (by (repeat' (first|with_reducible assumption|with_reducible refine Below.drew ?_|with_reducible refine Below.alloc ?_ (by first|omega|exact Nat.le_refl _|(simp;omega)) _|with_reducible exact Below.refl _ _))) hb)) (.inr (by omega)) (fun j u h=>cell_below hb (new_cells w8 _ _ _ rfl j u h))) rfl (by decide) ⟨by simp,Nat.le_refl _⟩);have HE:Hid (errI (listI (.cons (txtI text) (.cons (I.mk 6 0 [] emB g9) .nil)))=0):=Lib.hid HEE.out;have HW:Hid (9+(listI (.cons (txtI text) (.cons (I.mk 6 0 [] emB g9) .nil))).zt+5≤18 * t.wt):=Lib.hid HWW.out;clear hb)
      | (go_at_call 60;(with_reducible refine (HT.out _ _ _ _ _ _ _ _ _ _).mono ?_);rintro e w6 ⟨g6,rfl,hg6,hc6,hb6⟩;have hx6:=below_then3' (a:=wa) (by (repeat' (first|with_reducible assumption|with_reducible refine Below.drew ?_|with_reducible exact Below.refl _ _))) hb6;have hz6:Chg (fun k=>k=w.heap.size+1) wa w6:=Chg.of_below hx6;have HB6:=Lib.hid (HTB.out.2.trans (hx6.mono HTB.out.2.size));have HX6:=Lib.hid (HTB.out.1.keep hx6);have HI6:=Lib.hid (HIT.out.below (below_then3' (by (repeat' (first|with_reducible assumption|with_reducible refine Below.drew ?_|with_reducible exact Below.refl _ _))) hb6));have HG6:Hid (w.heap.size+2≤g6):=Lib.hid (by first|omega|(simp at hg6;omega));have HC6:=Lib.hid hc6;obtain ⟨p0,p1,p2,p3,p4,r0,r1,r2,r3,r4,r5⟩:=HX6.out.zs;clear hg6 hc6 hb6)
      | fail))
  all_goals
   go_wp2_with fail
   refine bodyPost_ret (v:=.agg (itCells 7 T none 0 0 ⟨#[]⟩ (some ⟨g6,0,none⟩) 1 1)) (by simp [results,Tryz.results37,go_sem, *]) rfl ?_
   have HR6:=rdit_tag 15 (by omega) HI6.out (.inr HG6.out) HC6.out
   rw [← HT1.out] at HR6
   refine it_fin HS.out HR6 (err_tag _ _ HE.out) (by rw [zt_tag];exact HW.out) HB6.out ?_
   iterate 5 (refine Chg.set2 ?_ (by exact rfl) _ _)
   exact Chg.refl _ _
theorem St.srcK {w:World} {v:Value} {bs:List UInt8} {W W':World} (h:St w v bs W) (hb:Below W.heap.size W W'):SrcB W' v bs:=h.1.srcB.keep hb
theorem putHighS_len (v:Nat):(putHighS v 8).length=8:=by simp [putHighS,putLowS,leBytes_length]
set_option maxRecDepth 100000 in
set_option maxHeartbeats 4000000 in
theorem item_19 (S0:Nat→Prop) (t:T) (w:World) (hS:∀ k,S0 k→k < w.heap.size) (bits hi lo:Nat) (text more:ByteArray) (sub:Int) (ab:Option Addr) (nb cb:Nat) (ak:Option Addr) (nk ck:Nat) (h2:2≤t.wt) (hh:hi < okSize) (hlo:lo < okSize):Calls Tryz.prog 37 #[.agg (valCells 19 bits hi lo text more sub ab nb cb ak nk ck)] w (ItOut S0 t w):=by
 have hTB:=two_boxes w (valCells 19 bits hi lo text more sub ab nb cb ak nk ck)
 obtain ⟨wa,hwa⟩:∃ W,W=((w.alloc (.cells (valCells 19 bits hi lo text more sub ab nb cb ak nk ck) 26)).alloc (.cells #[.int .i64 0,.int .u64 0,.slice none 0 0,.string ⟨#[]⟩,.slice none 0 0] 39)):=⟨_,rfl⟩
 have hTB:BoxI wa (w.heap.size+1) z5∧Below w.heap.size w wa:=by rw [hwa];exact hTB
 have hBV:BoxV wa w.heap.size (valCells 19 bits hi lo text more sub ab nb cb ak nk ck):=by rw [hwa];exact (BoxV.new w _ _).keep ((Below.refl _ _).alloc (Nat.le_refl _) _)
 have HTB:=Lib.hid hTB
 have HBV:=Lib.hid hBV
 have HS:=Lib.hid hS
 have HV:=Lib.hid h2
 have HP1:=Lib.hid (fun W=>putHigh_calls hi 8 hh W)
 have HP2:=Lib.hid (fun W=>putHigh_calls lo 8 hlo W)
 obtain ⟨l7,hl7⟩:∃ l,l=putHighS hi 8:=⟨_,rfl⟩
 obtain ⟨l8,hl8⟩:∃ l,l=putHighS lo 8:=⟨_,rfl⟩
 have HL7:Hid (l7.length=8):=Lib.hid (by rw [hl7];exact putHighS_len hi)
 have HL8:Hid (l8.length=8):=Lib.hid (by rw [hl8];exact putHighS_len lo)
 have HL9:Hid ((l7++l8).length=16):=Lib.hid (by rw [List.length_append,HL7.out,HL8.out])
 rw [← hl7] at HP1
 rw [← hl8] at HP2
 have HD:=Lib.hid (fun a n c W=>data28_calls a n c W)
 clear h2 hh hlo hl7 hl8
 obtain ⟨T,hT⟩:∃ T:Nat,T=1000+19:=⟨_,rfl⟩
 have HT:Hid (∀ (k':Int) (n':Nat) (ab':Option Addr) (nb' cb':Nat) (tx':ByteArray) (ak':Option Addr) (nk' ck':Nat) (W:World),Calls Tryz.prog 60 #[.int .i64 19,.agg (itCells k' n' ab' nb' cb' tx' ak' nk' ck')] W (TagO T (itCells k' n' ab' nb' cb' tx' ak' nk' ck') W)):=Lib.hid fun k' n' ab' nb' cb' tx' ak' nk' ck' W=>by rw [hT];exact tag28_calls 19 (by omega) k' n' ab' nb' cb' tx' ak' nk' ck' W
 have HKS:Hid (∀ W,Chg (fun k=>k=w.heap.size+1) wa W→Hid (Chg (fun k=>k=w.heap.size+1) wa W)∧W.cell? ⟨w.heap.size,0,none⟩=some (.int .i64 19)∧W.cell? ⟨w.heap.size,2,none⟩=some (.int .u64 (hi:Nat))∧W.cell? ⟨w.heap.size,3,none⟩=some (.int .u64 (lo:Nat))):=Lib.hid fun W hW=>⟨Lib.hid hW,hW.cell (p:=⟨w.heap.size,0,none⟩) (fun e=>by have e2:w.heap.size=w.heap.size+1:=e;omega) (HBV.out.2 0 (by omega)).1,hW.cell (p:=⟨w.heap.size,2,none⟩) (fun e=>by have e2:w.heap.size=w.heap.size+1:=e;omega) (HBV.out.2 2 (by omega)).1,hW.cell (p:=⟨w.heap.size,3,none⟩) (fun e=>by have e2:w.heap.size=w.heap.size+1:=e;omega) (HBV.out.2 3 (by omega)).1⟩
 have HT1:=Lib.hid hT
 have hz2:w.heap.size+2≤wa.heap.size:=HTB.out.1.1
 clear hS hTB hBV hT
 go_enter Tryz.func37,Tryz.ntmps37
 go_upto_region 46 with fail
 rw [← hwa]
 clear hwa
 have hx0:Chg (fun k=>k=w.heap.size+1) wa wa:=Chg.refl _ _
 obtain ⟨-,f0,f2,f3⟩:=HKS.out wa hx0
 have hbw:Below wa.heap.size wa wa:=Below.refl _ _
 go_region_held3 (fun W=>Hid (Chg (fun k=>k=w.heap.size+1) wa W)∧W.cell? ⟨w.heap.size,0,none⟩=some (.int .i64 19)∧W.cell? ⟨w.heap.size,2,none⟩=some (.int .u64 (hi:Nat))∧W.cell? ⟨w.heap.size,3,none⟩=some (.int .u64 (lo:Nat))) (first|((with_reducible refine HKS.out _ ?_);(repeat' (first|with_reducible assumption|with_reducible refine Chg.set2 ?_ (by exact rfl) _ _|with_reducible apply Chg.drew|with_reducible refine Chg.alloc ?_ _|with_reducible exact Chg.refl _ _));done)|fail)
  ((first
   | (go_at_call 40;(with_reducible refine (HP1.out _).mono ?_);rintro e w7 ⟨u7,rfl,how7,hbw7⟩;have hxw7:=below_then3' (a:=wa) (by (repeat' (first|with_reducible assumption|with_reducible refine Below.drew ?_|with_reducible refine Below.alloc ?_ (by first|omega|exact Nat.le_refl _|(simp;omega)) _|with_reducible exact Below.refl _ _))) hbw7;have hsw7:=hxw7.size;have hzw7:Chg (fun k=>k=w.heap.size+1) wa w7:=Chg.of_below hxw7;have HSw7:Hid (St wa u7 l7 w7):=Lib.hid ⟨how7.weaken (by first|omega|exact Nat.le_refl _|(simp;omega)),hxw7⟩;(try have hyy:=below_then3' (a:=w8) (by (repeat' (first|with_reducible assumption|with_reducible refine Below.drew ?_|with_reducible refine Below.alloc ?_ (by first|omega|exact Nat.le_refl _|(simp;omega)) _|with_reducible exact Below.refl _ _))) hbw7);clear how7 hbw7)
   | (go_at_call 40;(with_reducible refine (HP2.out _).mono ?_);rintro e w8 ⟨u8,rfl,how8,hbw8⟩;have hxw8:=below_then3' (a:=wa) (by (repeat' (first|with_reducible assumption|with_reducible refine Below.drew ?_|with_reducible refine Below.alloc ?_ (by first|omega|exact Nat.le_refl _|(simp;omega)) _|with_reducible exact Below.refl _ _))) hbw8;have hsw8:=hxw8.size;have hzw8:Chg (fun k=>k=w.heap.size+1) wa w8:=Chg.of_below hxw8;have HSw8:Hid (St wa u8 l8 w8):=Lib.hid ⟨how8.weaken (by first|omega|exact Nat.le_refl _|(simp;omega)),hxw8⟩;(try have hyy:=below_then3' (a:=w7) (by (repeat' (first|with_reducible assumption|with_reducible refine Below.drew ?_|with_reducible refine Below.alloc ?_ (by first|omega|exact Nat.le_refl _|(simp;omega)) _|with_reducible exact Below.refl _ _))) hbw8);clear how8 hbw8)
   | (refine arm_row (w:=wa) (v:=u7) (u:=u8) (bs:=l7) (l:=l8) (by rfl) _ _ (by rfl) (by rfl) (by rfl) ?_ ?_ ?_ ?_;(case _=>((with_reducible refine HSw7.out.keep ?_);(repeat' (first|with_reducible assumption|with_reducible refine Below.drew ?_|with_reducible refine Below.alloc ?_ (by first|omega|exact Nat.le_refl _|(simp;omega)) _|with_reducible exact Below.refl _ _))));(case _=>((with_reducible refine St.srcK HSw8.out ?_);(repeat' (first|with_reducible assumption|with_reducible refine Below.drew ?_|with_reducible refine Below.alloc ?_ (by first|omega|exact Nat.le_refl _|(simp;omega)) _|with_reducible exact Below.refl _ _))));(case _=>(rw [HL7.out,HL8.out];omega));rintro u9 w9 hst9 hl9;have hxw9:=hst9.bel;have hsw9:=hxw9.size;have hzw9:Chg (fun k=>k=w.heap.size+1) wa w9:=Chg.of_below hxw9;obtain ⟨a9,c9,rfl,hr9,hro9⟩:=hst9.1.rdS;rw [HL9.out] at hr9 hro9 ⊢;have HR9:=Lib.hid hr9;have HO9:=Lib.hid hro9;clear hst9 hl9 hr9 hro9)
   | (go_at_call 62;(with_reducible refine (HD.out a9 16 c9 _).mono ?_);rintro e w5 ⟨rfl,hb⟩;have hy9:=below_then3' (a:=w9) (by (repeat' (first|with_reducible assumption|with_reducible refine Below.drew ?_|with_reducible refine Below.alloc ?_ (by first|omega|exact Nat.le_refl _|(simp;omega)) _|with_reducible exact Below.refl _ _))) hb;have hx5:=below_then3' (a:=wa) (by (repeat' (first|with_reducible assumption|with_reducible refine Below.drew ?_|with_reducible refine Below.alloc ?_ (by first|omega|exact Nat.le_refl _|(simp;omega)) _|with_reducible exact Below.refl _ _))) hb;have hs5:=hx5.size;have hz5:Chg (fun k=>k=w.heap.size+1) wa w5:=Chg.of_below hx5;have HIT:=Lib.hid (show RdIt (fun k=>S0 k∨w.heap.size+2≤k) w5 (dataI (l7++l8)) _ from rdit_data ⟨(HR9.out.keep (KeepS.below hy9)).1,fun h p hp=>.inr (by have:=(HR9.out.2 h p hp).1;omega)⟩ HO9.out);have HE:=Lib.hid (err_data (l7++l8));have HW:=Lib.hid (show 9+(dataI (l7++l8)).zt+5≤18 * t.wt by rw [zt_data,HL9.out];have:=HV.out;omega);clear hb)
   | (go_at_call 60;(with_reducible refine (HT.out _ _ _ _ _ _ _ _ _ _).mono ?_);rintro e w6 ⟨g6,rfl,hg6,hc6,hb6⟩;have hx6:=below_then3' (a:=wa) (by (repeat' (first|with_reducible assumption|with_reducible refine Below.drew ?_|with_reducible exact Below.refl _ _))) hb6;have hz6:Chg (fun k=>k=w.heap.size+1) wa w6:=Chg.of_below hx6;have HB6:=Lib.hid (HTB.out.2.trans (hx6.mono HTB.out.2.size));have HX6:=Lib.hid (HTB.out.1.keep hx6);have HI6:=Lib.hid (HIT.out.below (below_then3' (by (repeat' (first|with_reducible assumption|with_reducible refine Below.drew ?_|with_reducible exact Below.refl _ _))) hb6));have HG6:Hid (w.heap.size+2≤g6):=Lib.hid (by first|omega|(simp at hg6;omega));have HC6:=Lib.hid hc6;obtain ⟨p0,p1,p2,p3,p4,r0,r1,r2,r3,r4,r5⟩:=HX6.out.zs;clear hg6 hc6 hb6)
   | fail))
 go_wp2_with fail
 refine bodyPost_ret (v:=.agg (itCells 7 T none 0 0 ⟨#[]⟩ (some ⟨g6,0,none⟩) 1 1)) (by simp [results,Tryz.results37,go_sem, *]) rfl ?_
 have HR6:=rdit_tag 19 (by omega) HI6.out (.inr HG6.out) HC6.out
 rw [← HT1.out] at HR6
 refine it_fin HS.out HR6 (err_tag _ _ HE.out) (by rw [zt_tag];exact HW.out) HB6.out ?_
 iterate 5 (refine Chg.set2 ?_ (by exact rfl) _ _)
 exact Chg.refl _ _
def LsRel (S0:Nat→Prop) (f:F) (w:World) (nk:Nat) (c8 l i:Value) (wr:World):Prop:=
 ∃ (j:Nat) (g:IL),i=.int .i64 (j:Nat)∧j≤nk∧g.len=j∧errIs g=0∧g.zt+18 * (f.drop j).wt≤18 * f.wt∧OwnI wr (w.heap.size+2) (fun k=>S0 k∨w.heap.size+2≤k) l g∧wr.cell? ⟨w.heap.size,8,none⟩=some c8∧BoxI wr (w.heap.size+1) z5∧Below w.heap.size w wr
theorem ls_next {S0:Nat→Prop} {f:F} {w wr w5:World} {nk j:Nat} {c8 v v5:Value} {g:IL} {nm:ByteArray} {t:T} {x:I} (hlt:j < nk)
  (hO:OwnI w5 (w.heap.size+2) (fun k=>S0 k∨w.heap.size+2≤k) v5 (g.append (.cons x .nil))) (hC:Chg (fun k=>v.ownBlock=some k) wr w5) (hfar:∀ k,v.ownBlock=some k→w.heap.size+2≤k)
  (hc8:wr.cell? ⟨w.heap.size,8,none⟩=some c8) (hB1:BoxI wr (w.heap.size+1) z5) (hbl:Below w.heap.size w wr) (hgl:g.len=j) (hge:errIs g=0) (hgw:g.zt+18 * (f.drop j).wt≤18 * f.wt)
  (hwt:nm.size+t.wt+(f.drop (j+1)).wt≤(f.drop j).wt∧(f.drop j).wt≤f.wt) (he:errI x=0) (hw2:x.zt+5≤18 * t.wt) :
  LsRel S0 f w nk c8 v5 (.int .i64 ((j:Int)+1)) w5:=by
 refine ⟨j+1,_,rfl,by omega,?_,errAppZ _ _ hge (errIs_cons _ _ he rfl),?_,hO,hC.cell (p:=⟨w.heap.size,8,none⟩) (fun e=>by have e2:=hfar w.heap.size e;omega) hc8,hB1.chg hC (fun e=>by have:=hfar _ e;omega),hbl.trans (hC.below hbl.size (fun i hi=>by have:=hfar i hi;omega))⟩
 ·rw [IL.append_len];simp only [IL.len];omega
 ·rw [IL.ztAppZ];simp only [IL.zt];omega
set_option maxRecDepth 100000 in
set_option maxHeartbeats 8000000 in
theorem item_4 (d:Nat) (hof:ItSaid d) (S0:Nat→Prop) (t:T) (w:World) (hS:∀ k,S0 k→k < w.heap.size) (bits hi lo:Nat) (text more:ByteArray) (sub:Int) (ab:Option Addr) (nb cb:Nat) (ak:Option Addr) (nk ck:Nat) (f:F) (hm:∀ W,Below w.heap.size w W→Calls Tryz.prog 20 #[.slice ak nk ck] W (MapOut S0 f W)) (hk:RdKsS S0 w ak 0 f) (hl:f.len=nk) (hd:f.wt≤d) (hd9:d≤900000) (hok:OkF f) (hw:f.wt+2≤t.wt):Calls Tryz.prog 37 #[.agg (valCells 4 bits hi lo text more sub ab nb cb ak nk ck)] w (ItOut S0 t w):=by
 have hnk:nk≤900000:=by have:=len_wtZ f;omega
 have hTB:=two_boxes w (valCells 4 bits hi lo text more sub ab nb cb ak nk ck)
 obtain ⟨wa,hwa⟩:∃ W,W=((w.alloc (.cells (valCells 4 bits hi lo text more sub ab nb cb ak nk ck) 26)).alloc (.cells #[.int .i64 0,.int .u64 0,.slice none 0 0,.string ⟨#[]⟩,.slice none 0 0] 39)):=⟨_,rfl⟩
 have hTB:BoxI wa (w.heap.size+1) z5∧Below w.heap.size w wa:=by rw [hwa];exact hTB
 have hBV:BoxV wa w.heap.size (valCells 4 bits hi lo text more sub ab nb cb ak nk ck):=by rw [hwa];exact (BoxV.new w _ _).keep ((Below.refl _ _).alloc (Nat.le_refl _) _)
 have HTB:=Lib.hid hTB
 have HBV:=Lib.hid hBV
 have HS:=Lib.hid hS
 have HV:=Lib.hid hw
 have HC:=Lib.hid hm
 have HK:=Lib.hid hk
 have HL:=Lib.hid hl
 have HOF:=Lib.hid hof
 have HOK:=Lib.hid hok
 have HRG:=Lib.hid (fun W (h:Below w.heap.size w W)=>regular_calls f W ak nk ck (hk.rd.keep h) hl hnk)
 have HLS:=Lib.hid (fun a n c W=>list28_calls a n c W)
 clear hw hm hk hl hof hok
 obtain ⟨T,hT⟩:∃ T:Nat,T=1000+4:=⟨_,rfl⟩
 have HT:Hid (∀ (k':Int) (n':Nat) (ab':Option Addr) (nb' cb':Nat) (tx':ByteArray) (ak':Option Addr) (nk' ck':Nat) (W:World),Calls Tryz.prog 60 #[.int .i64 4,.agg (itCells k' n' ab' nb' cb' tx' ak' nk' ck')] W (TagO T (itCells k' n' ab' nb' cb' tx' ak' nk' ck') W)):=Lib.hid fun k' n' ab' nb' cb' tx' ak' nk' ck' W=>by rw [hT];exact tag28_calls 4 (by omega) k' n' ab' nb' cb' tx' ak' nk' ck' W
 have HKS:Hid (∀ W,Chg (fun k=>k=w.heap.size+1) wa W→Hid (Chg (fun k=>k=w.heap.size+1) wa W)∧W.cell? ⟨w.heap.size,0,none⟩=some (.int .i64 4)∧W.cell? ⟨w.heap.size,8,none⟩=some (.slice ak nk ck)):=Lib.hid fun W hW=>⟨Lib.hid hW,hW.cell (p:=⟨w.heap.size,0,none⟩) (fun e=>by have e2:w.heap.size=w.heap.size+1:=e;omega) (HBV.out.2 0 (by omega)).1,hW.cell (p:=⟨w.heap.size,8,none⟩) (fun e=>by have e2:w.heap.size=w.heap.size+1:=e;omega) (HBV.out.2 8 (by omega)).1⟩
 have HT1:=Lib.hid hT
 have hz2:w.heap.size+2≤wa.heap.size:=HTB.out.1.1
 clear hS hTB hBV hT
 go_enter Tryz.func37,Tryz.ntmps37
 go_upto_region 9 with fail
 rw [← hwa]
 clear hwa
 have hx0:Chg (fun k=>k=w.heap.size+1) wa wa:=Chg.refl _ _
 obtain ⟨-,f0,f8⟩:=HKS.out wa hx0
 go_wp2_with fail
 refine (HRG.out _ HTB.out.2).mono ?_
 rintro e w1 ⟨⟨b,rfl⟩,hb1⟩
 have hx1:Below wa.heap.size wa w1:=hb1
 have hz1:Chg (fun k=>k=w.heap.size+1) wa w1:=Chg.of_below hx1
 have hs1:=hx1.size
 clear f0 f8 hx0 hb1
 obtain ⟨-,f0,f8⟩:=HKS.out w1 hz1
 cases b
 ·go_upto_region 10 with fail
  go_region_held3 (fun W=>Hid (Chg (fun k=>k=w.heap.size+1) wa W)∧W.cell? ⟨w.heap.size,0,none⟩=some (.int .i64 4)∧W.cell? ⟨w.heap.size,8,none⟩=some (.slice ak nk ck)) (first|((with_reducible refine HKS.out _ ?_);(repeat' (first|with_reducible assumption|with_reducible refine Chg.set2 ?_ (by exact rfl) _ _|with_reducible apply Chg.drew|with_reducible refine Chg.alloc ?_ _|with_reducible exact Chg.refl _ _));done)|fail)
   ((first
    | (go_at_call 20;(with_reducible refine (HC.out _ ?_).mono ?_);(case _=>exact HTB.out.2.trans (Below.mono (show Below wa.heap.size wa _ from (by (repeat' (first|with_reducible assumption|with_reducible refine Below.drew ?_|with_reducible refine Below.alloc ?_ (by first|omega|exact Nat.le_refl _|(simp;omega)) _|with_reducible exact Below.refl _ _)))) HTB.out.2.size));rintro e w8 ⟨a9,n9,c9,g9,rfl,hs,hr9,hl9,hn9,hev,hge,hgw,hb⟩;have hx8:=below_then3' (a:=wa) (by (repeat' (first|with_reducible assumption|with_reducible refine Below.drew ?_|with_reducible refine Below.alloc ?_ (by first|omega|exact Nat.le_refl _|(simp;omega)) _|with_reducible exact Below.refl _ _))) hb;have hs8:=hx8.size;have hz8:Chg (fun k=>k=w.heap.size+1) wa w8:=Chg.of_below hx8;have HIT:Hid (RdIt (fun k=>S0 k∨w.heap.size+2≤k) w8 (.mk 6 0 [] emB g9) (itCells 6 0 none 0 0 ⟨#[]⟩ a9 n9 c9)):=Lib.hid (rdit_map (RdIs.imp (fun i _ h=>h.imp id (fun h=>by first|omega|(simp at h;omega))) hs) hl9 hn9 hr9);have HE:Hid (errI (I.mk 6 0 [] emB g9)=0):=Lib.hid (err_map g9 (by omega) hge);have HW:Hid (9+(I.mk 6 0 [] emB g9).zt+5≤18 * t.wt):=Lib.hid (by rw [zt_map];have:=HV.out;omega);clear hs hr9 hl9 hn9 hev hge hgw hb)
    | (go_at_call 60;(with_reducible refine (HT.out _ _ _ _ _ _ _ _ _ _).mono ?_);rintro e w6 ⟨g6,rfl,hg6,hc6,hb6⟩;have hx6:=below_then3' (a:=wa) (by (repeat' (first|with_reducible assumption|with_reducible refine Below.drew ?_|with_reducible refine Below.alloc ?_ (by first|omega|exact Nat.le_refl _|(simp;omega)) _|with_reducible exact Below.refl _ _))) hb6;have hz6:Chg (fun k=>k=w.heap.size+1) wa w6:=Chg.of_below hx6;have HB6:=Lib.hid (HTB.out.2.trans (hx6.mono HTB.out.2.size));have HX6:=Lib.hid (HTB.out.1.keep hx6);have HI6:=Lib.hid (HIT.out.below (below_then3' (by (repeat' (first|with_reducible assumption|with_reducible refine Below.drew ?_|with_reducible refine Below.alloc ?_ (by first|omega|exact Nat.le_refl _|(simp;omega)) _|with_reducible exact Below.refl _ _))) hb6));have HG6:Hid (w.heap.size+2≤g6):=Lib.hid (by first|omega|(simp at hg6;omega));have HC6:=Lib.hid hc6;obtain ⟨p0,p1,p2,p3,p4,r0,r1,r2,r3,r4,r5⟩:=HX6.out.zs;clear hg6 hc6 hb6)
    | fail))
  all_goals
   go_wp2_with fail
   refine bodyPost_ret (v:=.agg (itCells 7 T none 0 0 ⟨#[]⟩ (some ⟨g6,0,none⟩) 1 1)) (by simp [results,Tryz.results37,go_sem, *]) rfl ?_
   have HR6:=rdit_tag 4 (by omega) HI6.out (.inr HG6.out) HC6.out
   rw [← HT1.out] at HR6
   refine it_fin HS.out HR6 (err_tag _ _ HE.out) (by rw [zt_tag];exact HW.out) HB6.out ?_
   iterate 5 (refine Chg.set2 ?_ (by exact rfl) _ _)
   exact Chg.refl _ _
 ·have H0:Hid (LsRel S0 f w nk (.slice ak nk ck) (.slice none 0 0) (.int .i64 (0:Nat)) w1):=Lib.hid ⟨0,.nil,rfl,by omega,rfl,rfl,by simp [F.drop,IL.zt],OwnI.nil _ _ _,f8,HTB.out.1.keep hx1,HTB.out.2.trans (hx1.mono HTB.out.2.size)⟩
  go_upto_region 11 with fail
  clear f0 f8 hx1 hz1 hs1 hz2
  go_wp2_with fail
  go_loopw [3,4] (fun l i wr=>∃ vl,vl=l∧LsRel S0 f w nk (.slice ak nk ck) vl i wr) (fun _ i _=>nk - (intOf i).toNat)
  case atStart=>exact ⟨_,rfl,H0.out⟩
  case round=>
   obtain ⟨vl,rfl,j,g,rfl,hj,hgl,hge,hgw,hown,hc8,hb1,hbl⟩:=hrel
   have hz:w.heap.size+2≤wr.heap.size:=hb1.1
   have HKW:=Lib.hid (HK.out.keep (KeepS.below hbl))
   have HBW:=Lib.hid hbl
   have HO:=Lib.hid hown
   have HC8:=Lib.hid hc8
   have HB1:=Lib.hid hb1
   have HGE:=Lib.hid hge
   have HGW:=Lib.hid hgw
   have f8:=hc8
   clear hbl hown hb1 hge hgw hc8
   by_cases hlt:j < nk
   ·obtain ⟨⟨nm,t2⟩,hx⟩:=F.get_some f j (by rw [HL.out];exact hlt)
    obtain ⟨htok,hnok⟩:=HOK.out.get hx
    have hwt:=F.wt_get f j nm t2 hx
    have hkz:=HKW.out.atZ hx
    rw [Nat.zero_add] at hkz
    obtain ⟨b,o,k,bits2,hi2,lo2,text2,more2,sub2,ab2,nb2,cb2,ak2,nk2,ck2,rfl,hnm,htr,e0,e1,e2,e3,e4,e5,e6,e7,e8,e9,hsb⟩:=hkz
    have hIT:∀ W,Below wr.heap.size wr W→Calls Tryz.prog 37 #[.agg (valCells k bits2 hi2 lo2 text2 more2 sub2 ab2 nb2 cb2 ak2 nk2 ck2)] W (ItOut S0 t2 W):=fun W hW=>
     HOF.out t2 (by omega) htok S0 W _ (fun i hi=>by have:=HS.out i hi;have:=hW.size;omega) (htr.keep (KeepS.below hW))
    have HIT:=Lib.hid hIT
    have HWT:=Lib.hid hwt
    clear hx hIT hnm hnok hwt htr htok
    have hj0:(0:Int)≤(j:Int):=by omega
    have hj1:(j:Int) < (nk:Int):=by omega
    have hcur:=fun k hk=>(HO.out.far k hk).1
    have HFAR:=Lib.hid hcur
    have HFS:Hid (∀ k,(S0 k∨wr.heap.size≤k)→(S0 k∨w.heap.size+2≤k)∧vl.ownBlock≠some k):=Lib.hid fun i hi=>by
     have h9:=HO.out.far i
     rcases hi with hi|hi
     ·have h8:=HS.out i hi
      exact ⟨.inl hi,fun e=>by have:=h9 e;omega⟩
     ·exact ⟨.inr (by omega),fun e=>by have:=h9 e;omega⟩
    clear hcur
    go_wp2_with fail
    refine (HIT.out _ (Below.refl _ _)).mono ?_
    rintro e w10 ⟨ki,ni,ab3,nb3,cb3,tx3,ak3,nk3,ck3,x,rfl,hr2,he2,hw2,hb10⟩
    have HX:=Lib.hid hr2
    have HB10:=Lib.hid hb10
    have HE2:=Lib.hid he2
    have HW2:=Lib.hid hw2
    have hs10:=hb10.size
    clear hr2 he2 hw2 hb10 e0 e1 e2 e3 e4 e5 e6 e7 e8 e9 f8
    go_wp2_with (at_builtin;refine wpList_appI (v:=vl) (f:=g) (B:=w.heap.size+2) (L:=fun k=>S0 k∨w.heap.size+2≤k) (sv:=.slice (some ⟨w10.heap.size,0,none⟩) 1 1) (g:=.cons x .nil) (S1:=fun k=>S0 k∨wr.heap.size≤k) (by rfl) _ _ (by rfl) (by rfl) (HO.out.keep (HB10.out.alloc hs10 _)) (by rfl) (SrcI.one (HX.out.below ((Below.refl _ _).alloc (Nat.le_refl _) _)) (new_cells _ _ _ _ rfl)) HFS.out ?o1 ?o2 ?_)
    case o1=>simp [IL.len];omega
    case o2=>simp;omega
    intro v5 w5 ho5 ha5
    have HC5:Hid (Chg (fun k=>vl.ownBlock=some k) wr w5):=Lib.hid ((Chg.of_below (a:=wr) (HB10.out.alloc hs10 _)).trans ha5.chg (fun i _ e=>e))
    have HFIN:=Lib.hid (ls_next (nk:=nk) hlt ho5 HC5.out HFAR.out HC8.out HB1.out HBW.out hgl HGE.out HGW.out HWT.out HE2.out HW2.out)
    clear ho5 ha5
    go_wp2_with fail
    exact ⟨⟨_,rfl,HFIN.out⟩,by simp [intOf];omega⟩
   ·obtain ⟨aR,cR,rfl,hrd,hro,hle⟩:=OwnI.reads HO.out (fun k hk=>.inr hk)
    have hjn:decide ((j:Int) < (nk:Int))=false:=by simp;omega
    have HIT:Hid (RdIt (fun k=>S0 k∨w.heap.size+2≤k) wr (listI g) (itCells 5 0 none 0 0 ⟨#[]⟩ aR g.len cR)):=Lib.hid (rdit_list hrd rfl hle hro)
    have HE:Hid (errI (listI g)=0):=Lib.hid (err_list g HGE.out)
    have HW:Hid ((listI g).zt+5≤18 * t.wt):=Lib.hid (by rw [zt_list];have:=HGW.out;have:=HV.out;omega)
    obtain ⟨N,hN⟩:∃ N,N=g.len:=⟨_,rfl⟩
    rw [← hN] at HIT ⊢
    clear hgl hN hrd hro hle
    go_wp2_with (go_at_call 61;(with_reducible refine (HLS.out aR N cR _).mono ?_);rintro e w6 ⟨rfl,hb⟩;have HB6:=Lib.hid (HBW.out.trans (hb.mono HBW.out.size));have HI6:=Lib.hid (HIT.out.below hb);have HX6:=Lib.hid (HB1.out.keep hb);obtain ⟨p0,p1,p2,p3,p4,r0,r1,r2,r3,r4,r5⟩:=HX6.out.zs;clear hb)
    refine bodyPost_ret (v:=.agg (itCells 5 0 none 0 0 ⟨#[]⟩ aR N cR)) (by simp [results,Tryz.results37,go_sem, *]) rfl ?_
    refine it_fin HS.out HI6.out HE.out HW.out HB6.out ?_
    iterate 5 (refine Chg.set2 ?_ (by exact rfl) _ _)
    exact Chg.refl _ _
end Go.Proofs.YtmooaepbdmengaaGreatDoor
