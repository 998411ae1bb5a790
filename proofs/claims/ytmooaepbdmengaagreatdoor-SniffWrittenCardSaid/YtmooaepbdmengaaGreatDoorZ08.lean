/- Parts of the proof of SniffWritten: BoRV, SizeR, BoRG. -/
import Derived.Test.YtmooaepbdmengaaGreatDoorZ07
import Derived.Test.YtmooaepbdmengaaGreatDoorZ05
import Derived.Deep.Cut
namespace Go.Proofs.YtmooaepbdmengaaGreatDoor
open Go.RowKit
set_option linter.unusedVariables false
set_option linter.unusedSimpArgs false
set_option maxRecDepth 100000 in
set_option maxHeartbeats 32000000 in
theorem rval_step (d:Nat) (hof:RDocSaid d):RValSaid (d+1):=by
 intro t hd hw9 w c h
 obtain ⟨k,bits,hi,lo,text,more,sub,bs,kids⟩:=t
 have hwtt:T.wt (.mk k bits hi lo text more sub bs kids)=2+text.size+more.size+bs.length+kids.wt:=by simp only [T.wt]
 rw [hwtt] at hd hw9
 have hT:=h
 obtain ⟨ab,nb,cb,ak,nk,ck,rfl,hok,hrb,hkl,hnk,hks⟩:=h
 obtain ⟨-,hbits,hhi,hlo,-,-,-⟩:=hok
 have hbl2:bs.length=nb:=hrb.1
 have hst1:=sl_len text
 have hst2:=sl_len more
 have htl:=textB_len text
 have hdl:=docOf_len (kidsB kids)
 have hkb:=kidsB_len kids
 obtain ⟨wa,hwa⟩:∃ W,W=w.alloc (.cells (valCells k bits hi lo text more sub ab nb cb ak nk ck) 26):=⟨_,rfl⟩
 have hba:Below w.heap.size w wa:=by rw [hwa];exact (Below.refl _ _).alloc (Nat.le_refl _) _
 have hxa:BoxV wa w.heap.size (valCells k bits hi lo text more sub ab nb cb ak nk ck):=by rw [hwa];exact BoxV.new _ _ _
 have HBX:Hid (∀ W,Below wa.heap.size wa W→BoxV W w.heap.size (valCells k bits hi lo text more sub ab nb cb ak nk ck)):=fun W hW=>hxa.keep hW
 have HBA:=Lib.hid hba
 obtain ⟨f0,f1,f2,f3,f4,f5,f6,f7,f8,l0⟩:=hxa.nine
 have HSB:Hid (∀ W,Below wa.heap.size wa W→SrcB W (.slice ab nb cb) bs):=fun W hW=>⟨ab,nb,cb,rfl,(hrb.keep hba).keep hW,hnk.2.2.1⟩
 have HDK:Hid (∀ W,Below wa.heap.size wa W→Calls Tryz.prog 17 #[.slice ak nk ck] W (NewB wa W (docOf (kidsB kids)))):=fun W hW=>(hof kids (by omega) (by omega) W ak nk ck ((hks.keep hba).keep hW) hkl hnk.1).mono fun _ _ h=>NewB.of hW h
 have CP:=Lib.hid (low_new wa)
 have CT:=Lib.hid (text_new wa text (by omega))
 clear hof hks hkl hnk hrb hba hxa hwtt
 by_cases h1:k=1
 ·subst h1
  as_aux_lemma=>
  have HV:Hid (valB (.mk 1 bits hi lo text more sub bs kids)=leBytes 8 bits):=by show _=_;simp [valB]
  go_enter Tryz.func31,Tryz.ntmps31
  go_upto_region 1 with fail
  rw [← hwa]
  clear hwa
  go_wp2_with fail
  refine (CP.out bits 8 8 _ rfl hbits (by omega) (by omega) (Below.refl _ _)).mono ?_
  rintro e w1 ⟨v1,rfl,hs1,hb1,hz1⟩
  have HS1:=Lib.hid hs1
  clear hs1 hb1 hz1
  clear f0 f1 f2 f3 f4 f5 f6 f7 f8 l0
  go_wp2_with fail
  go_ret
  exact ⟨_,rfl,by rw [HV.out];exact HS1.out.1.srcB,HBA.out.trans (HS1.out.bel.mono HBA.out.size)⟩
 by_cases h9:k=9
 ·subst h9
  as_aux_lemma=>
  have HV:Hid (valB (.mk 9 bits hi lo text more sub bs kids)=leBytes 8 bits):=by show _=_;simp [valB]
  go_enter Tryz.func31,Tryz.ntmps31
  go_upto_region 1 with fail
  rw [← hwa]
  clear hwa
  go_wp2_with fail
  refine (CP.out bits 8 8 _ rfl hbits (by omega) (by omega) (Below.refl _ _)).mono ?_
  rintro e w1 ⟨v1,rfl,hs1,hb1,hz1⟩
  have HS1:=Lib.hid hs1
  clear hs1 hb1 hz1
  clear f0 f1 f2 f3 f4 f5 f6 f7 f8 l0
  go_wp2_with fail
  go_ret
  exact ⟨_,rfl,by rw [HV.out];exact HS1.out.1.srcB,HBA.out.trans (HS1.out.bel.mono HBA.out.size)⟩
 by_cases h17:k=17
 ·subst h17
  as_aux_lemma=>
  have HV:Hid (valB (.mk 17 bits hi lo text more sub bs kids)=leBytes 8 bits):=by show _=_;simp [valB]
  go_enter Tryz.func31,Tryz.ntmps31
  go_upto_region 1 with fail
  rw [← hwa]
  clear hwa
  go_wp2_with fail
  refine (CP.out bits 8 8 _ rfl hbits (by omega) (by omega) (Below.refl _ _)).mono ?_
  rintro e w1 ⟨v1,rfl,hs1,hb1,hz1⟩
  have HS1:=Lib.hid hs1
  clear hs1 hb1 hz1
  clear f0 f1 f2 f3 f4 f5 f6 f7 f8 l0
  go_wp2_with fail
  go_ret
  exact ⟨_,rfl,by rw [HV.out];exact HS1.out.1.srcB,HBA.out.trans (HS1.out.bel.mono HBA.out.size)⟩
 by_cases h18:k=18
 ·subst h18
  as_aux_lemma=>
  have HV:Hid (valB (.mk 18 bits hi lo text more sub bs kids)=leBytes 8 bits):=by show _=_;simp [valB]
  go_enter Tryz.func31,Tryz.ntmps31
  go_upto_region 1 with fail
  rw [← hwa]
  clear hwa
  go_wp2_with fail
  refine (CP.out bits 8 8 _ rfl hbits (by omega) (by omega) (Below.refl _ _)).mono ?_
  rintro e w1 ⟨v1,rfl,hs1,hb1,hz1⟩
  have HS1:=Lib.hid hs1
  clear hs1 hb1 hz1
  clear f0 f1 f2 f3 f4 f5 f6 f7 f8 l0
  go_wp2_with fail
  go_ret
  exact ⟨_,rfl,by rw [HV.out];exact HS1.out.1.srcB,HBA.out.trans (HS1.out.bel.mono HBA.out.size)⟩
 by_cases h16:k=16
 ·subst h16
  as_aux_lemma=>
  have HV:Hid (valB (.mk 16 bits hi lo text more sub bs kids)=leBytes 4 bits):=by show _=_;simp [valB]
  go_enter Tryz.func31,Tryz.ntmps31
  go_upto_region 1 with fail
  rw [← hwa]
  clear hwa
  go_wp2_with fail
  refine (CP.out bits 4 4 _ rfl hbits (by omega) (by omega) (Below.refl _ _)).mono ?_
  rintro e w1 ⟨v1,rfl,hs1,hb1,hz1⟩
  have HS1:=Lib.hid hs1
  clear hs1 hb1 hz1
  clear f0 f1 f2 f3 f4 f5 f6 f7 f8 l0
  go_wp2_with fail
  go_ret
  exact ⟨_,rfl,by rw [HV.out];exact HS1.out.1.srcB,HBA.out.trans (HS1.out.bel.mono HBA.out.size)⟩
 by_cases h8:k=8
 ·subst h8
  as_aux_lemma=>
  have HV:Hid (valB (.mk 8 bits hi lo text more sub bs kids)=leBytes 1 bits):=by show _=_;simp [valB]
  go_enter Tryz.func31,Tryz.ntmps31
  go_upto_region 1 with fail
  rw [← hwa]
  clear hwa
  go_wp2_with fail
  refine (CP.out bits 1 1 _ rfl hbits (by omega) (by omega) (Below.refl _ _)).mono ?_
  rintro e w1 ⟨v1,rfl,hs1,hb1,hz1⟩
  have HS1:=Lib.hid hs1
  clear hs1 hb1 hz1
  clear f0 f1 f2 f3 f4 f5 f6 f7 f8 l0
  go_wp2_with fail
  go_ret
  exact ⟨_,rfl,by rw [HV.out];exact HS1.out.1.srcB,HBA.out.trans (HS1.out.bel.mono HBA.out.size)⟩
 by_cases h19:k=19
 ·subst h19
  as_aux_lemma=>
  have HV:Hid (valB (.mk 19 bits hi lo text more sub bs kids)=leBytes 8 lo++leBytes 8 hi):=by show _=_;simp [valB]
  go_enter Tryz.func31,Tryz.ntmps31
  go_upto_region 1 with fail
  rw [← hwa]
  clear hwa
  go_upto_region 12 with fail
  have HKP:Hid (∀ W,Below wa.heap.size wa W→W.cell? ⟨w.heap.size,3,none⟩=some (.int .u64 (lo:Nat))∧W.cell? ⟨w.heap.size,2,none⟩=some (.int .u64 (hi:Nat))):=fun W hW=>by
   obtain ⟨f0,f1,f2,f3,f4,f5,f6,f7,f8,l0⟩:=(HBX.out W hW).nine
   exact ⟨f3,f2⟩
  go_region_held3 (fun W=>W.cell? ⟨w.heap.size,3,none⟩=some (.int .u64 (lo:Nat))∧W.cell? ⟨w.heap.size,2,none⟩=some (.int .u64 (hi:Nat))) ((with_reducible refine HKP.out _ ?_;(repeat' (first|with_reducible exact HS4.out.bel|with_reducible exact HS3.out.bel|with_reducible exact HS2.out.bel|with_reducible exact HS1.out.bel|with_reducible refine below_al ?_ _|with_reducible refine Below.drew ?_|with_reducible exact Below.refl _ _))))
   ((first
    | (go_at_call 32;(with_reducible refine (CP.out lo 8 8 _ rfl hlo (by omega) (by omega) ?_).mono ?_);(case _=>(repeat' (first|with_reducible exact HS4.out.bel|with_reducible exact HS3.out.bel|with_reducible exact HS2.out.bel|with_reducible exact HS1.out.bel|with_reducible refine below_al ?_ _|with_reducible refine Below.drew ?_|with_reducible exact Below.refl _ _)));rintro e w1 ⟨v1,rfl,hs1,hb1,hz1⟩;have HS1:=Lib.hid hs1;have HA1:=Lib.hid (fun v l (h:St wa v l _)=>h.keep hb1);have HX1:=Lib.hid hs1.1.srcB;have HZ1:=Lib.hid hz1;clear hs1 hb1 hz1)
    | (go_at_call 32;(with_reducible refine (CP.out hi 8 8 _ rfl hhi (by omega) (by omega) ?_).mono ?_);(case _=>(repeat' (first|with_reducible exact HS4.out.bel|with_reducible exact HS3.out.bel|with_reducible exact HS2.out.bel|with_reducible exact HS1.out.bel|with_reducible refine below_al ?_ _|with_reducible refine Below.drew ?_|with_reducible exact Below.refl _ _)));rintro e w2 ⟨v2,rfl,hs2,hb2,hz2⟩;have HS2:=Lib.hid hs2;have HA2:=Lib.hid (fun v l (h:St wa v l _)=>h.keep hb2);have HX2:=Lib.hid hs2.1.srcB;have HZ2:=Lib.hid hz2;clear hs2 hb2 hz2)
    | (refine arm_row (w:=wa) (v:=v1) (u:=v2) (bs:=leBytes 8 lo) (l:=leBytes 8 hi) (by rfl) _ _ (by rfl) (by rfl) (by rfl) ?_ ?_ ?_ ?_;(case _=>(repeat' (first|with_reducible exact HS4.out|with_reducible exact HS3.out|with_reducible exact HS2.out|with_reducible exact HS1.out|with_reducible refine St.alloc ?_ _|with_reducible refine St.drew ?_|with_reducible refine HA4.out _ _ ?_|with_reducible refine HA3.out _ _ ?_|with_reducible refine HA2.out _ _ ?_)));(case _=>exact HX2.out);(case _=>first|omega|(simp [leB_len];done)|(simp [leB_len];omega));intro v3 w3 hs3 hl3;have HS3:=Lib.hid hs3;have HL3:=Lib.hid hl3;clear hs3 hl3)
    | fail))
  clear f0 f1 f2 f3 f4 f5 f6 f7 f8 l0
  go_wp2_with fail
  go_ret
  exact ⟨_,rfl,by rw [HV.out];exact HS3.out.1.srcB,HBA.out.trans (HS3.out.bel.mono HBA.out.size)⟩
 by_cases h2:k=2
 ·subst h2
  as_aux_lemma=>
  have HV:Hid (valB (.mk 2 bits hi lo text more sub bs kids)=textB text):=by show _=_;simp [valB]
  go_enter Tryz.func31,Tryz.ntmps31
  go_upto_region 1 with fail
  rw [← hwa]
  clear hwa
  go_wp2_with fail
  refine (CT.out _ (Below.refl _ _)).mono ?_
  rintro e w1 ⟨v1,rfl,hs1,hb1,hz1⟩
  have HS1:=Lib.hid hs1
  clear hs1 hb1 hz1
  clear f0 f1 f2 f3 f4 f5 f6 f7 f8 l0
  go_wp2_with fail
  go_ret
  exact ⟨_,rfl,by rw [HV.out];exact HS1.out.1.srcB,HBA.out.trans (HS1.out.bel.mono HBA.out.size)⟩
 by_cases h13:k=13
 ·subst h13
  as_aux_lemma=>
  have HV:Hid (valB (.mk 13 bits hi lo text more sub bs kids)=textB text):=by show _=_;simp [valB]
  go_enter Tryz.func31,Tryz.ntmps31
  go_upto_region 1 with fail
  rw [← hwa]
  clear hwa
  go_wp2_with fail
  refine (CT.out _ (Below.refl _ _)).mono ?_
  rintro e w1 ⟨v1,rfl,hs1,hb1,hz1⟩
  have HS1:=Lib.hid hs1
  clear hs1 hb1 hz1
  clear f0 f1 f2 f3 f4 f5 f6 f7 f8 l0
  go_wp2_with fail
  go_ret
  exact ⟨_,rfl,by rw [HV.out];exact HS1.out.1.srcB,HBA.out.trans (HS1.out.bel.mono HBA.out.size)⟩
 by_cases h14:k=14
 ·subst h14
  as_aux_lemma=>
  have HV:Hid (valB (.mk 14 bits hi lo text more sub bs kids)=textB text):=by show _=_;simp [valB]
  go_enter Tryz.func31,Tryz.ntmps31
  go_upto_region 1 with fail
  rw [← hwa]
  clear hwa
  go_wp2_with fail
  refine (CT.out _ (Below.refl _ _)).mono ?_
  rintro e w1 ⟨v1,rfl,hs1,hb1,hz1⟩
  have HS1:=Lib.hid hs1
  clear hs1 hb1 hz1
  clear f0 f1 f2 f3 f4 f5 f6 f7 f8 l0
  go_wp2_with fail
  go_ret
  exact ⟨_,rfl,by rw [HV.out];exact HS1.out.1.srcB,HBA.out.trans (HS1.out.bel.mono HBA.out.size)⟩
 by_cases h11:k=11
 ·subst h11
  as_aux_lemma=>
  exact rregex_calls bits hi lo text more sub bs kids hw9 w _ hT
 by_cases h5:k=5
 ·subst h5
  as_aux_lemma=>
  obtain ⟨x,hx8⟩:∃ x:Nat,x=(sub % 256).toNat:=⟨_,rfl⟩
  have hxu:IntKind.u8.wrap sub=(x:Int):=by rw [IntKind.wrap_u8'];omega
  have hx9:x < 256:=by omega
  have HKB:Hid (UInt8.ofNat x=kindB sub):=by show _=_;rw [hx8];rfl
  have e0:IntKind.u64.wrap (nb:Int)=(nb:Int):=wrap_u64_of (by omega) (by omega)
  have hnbk:nb < okSize:=by unfold okSize;omega
  clear hx8
  by_cases hs2:sub=2
  ·subst hs2
   have HV:Hid (valB (.mk 5 bits hi lo text more 2 bs kids)=leBytes 4 (nb+4)++[kindB 2]++(leBytes 4 nb++bs)):=by show _=_;simp [valB,binB,hbl2]
   obtain ⟨N4,hN4⟩:∃ x,x=nb+4:=⟨_,rfl⟩
   have e4:IntKind.u64.wrap (N4:Int)=(N4:Int):=wrap_u64_of (by omega) (by omega)
   have hN4k:N4 < okSize:=by unfold okSize;omega
   have hN4b:N4≤100000:=by omega
   go_enter Tryz.func31,Tryz.ntmps31
   go_upto_region 1 with fail
   rw [← hwa]
   clear hwa
   go_upto_region 22 with fail
   have HKP:Hid (∀ W,Below wa.heap.size wa W→W.cell? ⟨w.heap.size,7,none⟩=some (.slice ab nb cb)):=fun W hW=>by
    obtain ⟨f0,f1,f2,f3,f4,f5,f6,f7,f8,l0⟩:=(HBX.out W hW).nine
    exact f7
   go_region_held3 (fun W=>W.cell? ⟨w.heap.size,7,none⟩=some (.slice ab nb cb)) ((with_reducible refine HKP.out _ ?_;(repeat' (first|with_reducible exact HS4.out.bel|with_reducible exact HS3.out.bel|with_reducible exact HS2.out.bel|with_reducible exact HS1.out.bel|with_reducible refine below_al ?_ _|with_reducible refine Below.drew ?_|with_reducible exact Below.refl _ _))))
    ((first
     | (go_at_call 32;(with_reducible refine (CP.out nb 4 4 _ rfl hnbk (by omega) (by omega) ?_).mono ?_);(case _=>(repeat' (first|with_reducible exact HS4.out.bel|with_reducible exact HS3.out.bel|with_reducible exact HS2.out.bel|with_reducible exact HS1.out.bel|with_reducible refine below_al ?_ _|with_reducible refine Below.drew ?_|with_reducible exact Below.refl _ _)));rintro e w1 ⟨v1,rfl,hs1,hb1,hz1⟩;have HS1:=Lib.hid hs1;have HA1:=Lib.hid (fun v l (h:St wa v l _)=>h.keep hb1);have HX1:=Lib.hid hs1.1.srcB;have HZ1:=Lib.hid hz1;clear hs1 hb1 hz1)
     | (refine arm_row (w:=wa) (v:=v1) (u:=.slice ab nb cb) (bs:=leBytes 4 nb) (l:=bs) (by rfl) _ _ (by rfl) (by rfl) (by rfl) ?_ ?_ ?_ ?_;(case _=>(repeat' (first|with_reducible exact HS4.out|with_reducible exact HS3.out|with_reducible exact HS2.out|with_reducible exact HS1.out|with_reducible refine St.alloc ?_ _|with_reducible refine St.drew ?_|with_reducible refine HA4.out _ _ ?_|with_reducible refine HA3.out _ _ ?_|with_reducible refine HA2.out _ _ ?_)));(case _=>(refine HSB.out _ ?_;(repeat' (first|with_reducible exact HS4.out.bel|with_reducible exact HS3.out.bel|with_reducible exact HS2.out.bel|with_reducible exact HS1.out.bel|with_reducible refine below_al ?_ _|with_reducible refine Below.drew ?_|with_reducible exact Below.refl _ _))));(case _=>first|omega|(simp [leB_len];done)|(simp [leB_len];omega));intro v2 w2 hs2 hl2;have HS2:=Lib.hid hs2;have HL2:=Lib.hid hl2;clear hs2 hl2)
     | fail))
   obtain ⟨a2,c2,hv2,hr2⟩:=HS2.out.1.reads
   rw [List.length_append,leB_len,hbl2,show 4+nb=N4 by omega] at hv2
   subst hv2
   have HN4:=Lib.hid hN4
   obtain ⟨wb,rfl⟩:∃ wb,wb=w2:=⟨_,rfl⟩
   have HKW:Hid (Below wa.heap.size wa wb):=HS2.out.bel
   have HDS:Hid (∀ W,Below wb.heap.size wb W→SrcB W (.slice a2 N4 c2) (leBytes 4 nb++bs)):=fun W hW=>HS2.out.1.srcB.keep hW
   have CPB:=Lib.hid (low_new wb)
   have hll:(leBytes 4 nb++bs).length=N4:=by rw [List.length_append,leB_len,hbl2];omega
   clear hr2 hN4 HS2 HS1 HKP
   clear f0 f1 f2 f3 f4 f5 f6 f7 f8 l0
   obtain ⟨f0,f1,f2,f3,f4,f5,f6,f7,f8,l0⟩:=(HBX.out wb HKW.out).nine
   go_upto_region 23 with fail
   have HKP:Hid (∀ W,Below wb.heap.size wb W→W.cell? ⟨w.heap.size,6,none⟩=some (.int .i64 2)):=fun W hW=>by
    obtain ⟨f0,f1,f2,f3,f4,f5,f6,f7,f8,l0⟩:=(HBX.out W (HKW.out.trans (hW.mono HKW.out.size))).nine
    exact f6
   go_region_held3 (fun W=>W.cell? ⟨w.heap.size,6,none⟩=some (.int .i64 2)) ((with_reducible refine HKP.out _ ?_;(repeat' (first|with_reducible exact HS6.out.bel|with_reducible exact HS5.out.bel|with_reducible exact HS4.out.bel|with_reducible exact HS3.out.bel|with_reducible refine below_al ?_ _|with_reducible refine Below.drew ?_|with_reducible exact Below.refl _ _))))
    ((first
     | (go_at_call 32;(with_reducible refine (CPB.out N4 4 4 _ rfl hN4k (by omega) (by omega) ?_).mono ?_);(case _=>(repeat' (first|with_reducible exact HS6.out.bel|with_reducible exact HS5.out.bel|with_reducible exact HS4.out.bel|with_reducible exact HS3.out.bel|with_reducible refine below_al ?_ _|with_reducible refine Below.drew ?_|with_reducible exact Below.refl _ _)));rintro e w3 ⟨v3,rfl,hs3,hb3,hz3⟩;have HS3:=Lib.hid hs3;have HA3:=Lib.hid (fun v l (h:St wb v l _)=>h.keep hb3);have HX3:=Lib.hid hs3.1.srcB;have HZ3:=Lib.hid hz3;clear hs3 hb3 hz3)
     | (refine arm_one (w:=wb) (v:=v3) (bs:=leBytes 4 N4) (x:=x) (by rfl) _ _ (by rfl) (by rfl) (by rfl) ?_ ?_ hx9 ?_ ?_;(case _=>(repeat' (first|with_reducible exact HS4.out|with_reducible exact HS3.out|with_reducible exact HS2.out|with_reducible exact HS1.out|with_reducible refine St.alloc ?_ _|with_reducible refine St.drew ?_|with_reducible refine HA4.out _ _ ?_|with_reducible refine HA3.out _ _ ?_|with_reducible refine HA2.out _ _ ?_)));(case _=>(repeat' (first|((with_reducible refine Zg.new (w:=wb) (bs:=leBytes 4 N4) ?_ ?_ _);(case _=>(repeat' (first|with_reducible exact HS4.out|with_reducible exact HS3.out|with_reducible exact HS2.out|with_reducible exact HS1.out|with_reducible refine St.alloc ?_ _|with_reducible refine St.drew ?_|with_reducible refine HA4.out _ _ ?_|with_reducible refine HA3.out _ _ ?_|with_reducible refine HA2.out _ _ ?_)));(case _=>first|rfl|(simp [World.drew];done)))|((with_reducible refine HZ3.out _ _ ?_);(simp [go_sem];done))|with_reducible refine Zg.alloc ?_ _|with_reducible refine Zg.drew ?_)));(case _=>simp [leB_len]);intro v4 w4 hs4 hl4;have HS4:=Lib.hid hs4;clear hs4 hl4)
     | (refine arm_row (w:=wb) (v:=v4) (u:=.slice a2 N4 c2) (bs:=leBytes 4 N4++[UInt8.ofNat x]) (l:=leBytes 4 nb++bs) (by rfl) _ _ (by rfl) (by rfl) (by rfl) ?_ ?_ ?_ ?_;(case _=>(repeat' (first|with_reducible exact HS4.out|with_reducible exact HS3.out|with_reducible exact HS2.out|with_reducible exact HS1.out|with_reducible refine St.alloc ?_ _|with_reducible refine St.drew ?_|with_reducible refine HA4.out _ _ ?_|with_reducible refine HA3.out _ _ ?_|with_reducible refine HA2.out _ _ ?_)));(case _=>(refine HDS.out _ ?_;(repeat' (first|with_reducible exact HS6.out.bel|with_reducible exact HS5.out.bel|with_reducible exact HS4.out.bel|with_reducible exact HS3.out.bel|with_reducible refine below_al ?_ _|with_reducible refine Below.drew ?_|with_reducible exact Below.refl _ _))));(case _=>first|omega|(simp [leB_len, *];done)|(simp [leB_len, *];omega));intro v5 w5 hs5 hl5;have HS5:=Lib.hid hs5;clear hs5 hl5)
     | fail))
   all_goals
    clear f0 f1 f2 f3 f4 f5 f6 f7 f8 l0
    go_wp2_with fail
    go_ret
    exact ⟨_,rfl,by rw [HV.out,← HKB.out,← HN4.out];first|exact HS5.out.1.srcB|(rw [show True=True from by simp];exact HS5.out.1.srcB),HBA.out.trans ((HKW.out.trans (HS5.out.bel.mono HKW.out.size)).mono HBA.out.size)⟩
  ·have es:(sub == 2)=false:=by simpa using hs2
   have HV:Hid (valB (.mk 5 bits hi lo text more sub bs kids)=leBytes 4 nb++[kindB sub]++bs):=by show _=_;simp [valB,binB,hbl2,hs2]
   obtain ⟨wb,hwb⟩:∃ wb,wb=wa:=⟨_,rfl⟩
   have HKW:Hid (Below wa.heap.size wa wb):=by rw [hwb];exact Below.refl _ _
   have HDS:Hid (∀ W,Below wb.heap.size wb W→SrcB W (.slice ab nb cb) bs):=fun W hW=>HSB.out W (HKW.out.trans (hW.mono HKW.out.size))
   have CPB:=Lib.hid (low_new wb)
   go_enter Tryz.func31,Tryz.ntmps31
   go_upto_region 1 with fail
   rw [← hwa]
   clear hwa
   go_upto_region 23 with fail
   rw [← hwb] at f0 f1 f2 f3 f4 f5 f6 f7 f8 l0 ⊢
   clear hwb
   have HKP:Hid (∀ W,Below wb.heap.size wb W→W.cell? ⟨w.heap.size,6,none⟩=some (.int .i64 sub)):=fun W hW=>by
    obtain ⟨f0,f1,f2,f3,f4,f5,f6,f7,f8,l0⟩:=(HBX.out W (HKW.out.trans (hW.mono HKW.out.size))).nine
    exact f6
   go_region_held3 (fun W=>W.cell? ⟨w.heap.size,6,none⟩=some (.int .i64 sub)) ((with_reducible refine HKP.out _ ?_;(repeat' (first|with_reducible exact HS6.out.bel|with_reducible exact HS5.out.bel|with_reducible exact HS4.out.bel|with_reducible exact HS3.out.bel|with_reducible refine below_al ?_ _|with_reducible refine Below.drew ?_|with_reducible exact Below.refl _ _))))
    ((first
     | (go_at_call 32;(with_reducible refine (CPB.out nb 4 4 _ rfl hnbk (by omega) (by omega) ?_).mono ?_);(case _=>(repeat' (first|with_reducible exact HS6.out.bel|with_reducible exact HS5.out.bel|with_reducible exact HS4.out.bel|with_reducible exact HS3.out.bel|with_reducible refine below_al ?_ _|with_reducible refine Below.drew ?_|with_reducible exact Below.refl _ _)));rintro e w3 ⟨v3,rfl,hs3,hb3,hz3⟩;have HS3:=Lib.hid hs3;have HA3:=Lib.hid (fun v l (h:St wb v l _)=>h.keep hb3);have HX3:=Lib.hid hs3.1.srcB;have HZ3:=Lib.hid hz3;clear hs3 hb3 hz3)
     | (refine arm_one (w:=wb) (v:=v3) (bs:=leBytes 4 nb) (x:=x) (by rfl) _ _ (by rfl) (by rfl) (by rfl) ?_ ?_ hx9 ?_ ?_;(case _=>(repeat' (first|with_reducible exact HS4.out|with_reducible exact HS3.out|with_reducible exact HS2.out|with_reducible exact HS1.out|with_reducible refine St.alloc ?_ _|with_reducible refine St.drew ?_|with_reducible refine HA4.out _ _ ?_|with_reducible refine HA3.out _ _ ?_|with_reducible refine HA2.out _ _ ?_)));(case _=>(repeat' (first|((with_reducible refine Zg.new (w:=wb) (bs:=leBytes 4 nb) ?_ ?_ _);(case _=>(repeat' (first|with_reducible exact HS4.out|with_reducible exact HS3.out|with_reducible exact HS2.out|with_reducible exact HS1.out|with_reducible refine St.alloc ?_ _|with_reducible refine St.drew ?_|with_reducible refine HA4.out _ _ ?_|with_reducible refine HA3.out _ _ ?_|with_reducible refine HA2.out _ _ ?_)));(case _=>first|rfl|(simp [World.drew];done)))|((with_reducible refine HZ3.out _ _ ?_);(simp [go_sem];done))|with_reducible refine Zg.alloc ?_ _|with_reducible refine Zg.drew ?_)));(case _=>simp [leB_len]);intro v4 w4 hs4 hl4;have HS4:=Lib.hid hs4;clear hs4 hl4)
     | (refine arm_row (w:=wb) (v:=v4) (u:=.slice ab nb cb) (bs:=leBytes 4 nb++[UInt8.ofNat x]) (l:=bs) (by rfl) _ _ (by rfl) (by rfl) (by rfl) ?_ ?_ ?_ ?_;(case _=>(repeat' (first|with_reducible exact HS4.out|with_reducible exact HS3.out|with_reducible exact HS2.out|with_reducible exact HS1.out|with_reducible refine St.alloc ?_ _|with_reducible refine St.drew ?_|with_reducible refine HA4.out _ _ ?_|with_reducible refine HA3.out _ _ ?_|with_reducible refine HA2.out _ _ ?_)));(case _=>(refine HDS.out _ ?_;(repeat' (first|with_reducible exact HS6.out.bel|with_reducible exact HS5.out.bel|with_reducible exact HS4.out.bel|with_reducible exact HS3.out.bel|with_reducible refine below_al ?_ _|with_reducible refine Below.drew ?_|with_reducible exact Below.refl _ _))));(case _=>first|omega|(simp [leB_len, *];done)|(simp [leB_len, *];omega));intro v5 w5 hs5 hl5;have HS5:=Lib.hid hs5;clear hs5 hl5)
     | fail))
   all_goals
    clear f0 f1 f2 f3 f4 f5 f6 f7 f8 l0
    go_wp2_with fail
    go_ret
    exact ⟨_,rfl,by rw [HV.out,← HKB.out];first|exact HS5.out.1.srcB|(rw [show True=True from by simp];exact HS5.out.1.srcB),HBA.out.trans ((HKW.out.trans (HS5.out.bel.mono HKW.out.size)).mono HBA.out.size)⟩
 by_cases h7:k=7
 ·subst h7
  as_aux_lemma=>
  have HV:Hid (valB (.mk 7 bits hi lo text more sub bs kids)=bs):=by show _=_;simp [valB]
  go_enter Tryz.func31,Tryz.ntmps31
  go_upto_region 1 with fail
  rw [← hwa]
  clear hwa
  have HE:Hid (OwnB (wa.alloc (.cells #[] 5)) wa.heap.size (.slice (some ⟨wa.heap.size,0,none⟩) 0 0) []):=ownB_empty (heap_alloc_new wa _) (Nat.le_refl _)
  have HSE:Hid (SrcB (wa.alloc (.cells #[] 5)) (.slice ab nb cb) bs):=HSB.out _ ((Below.refl _ _).alloc (Nat.le_refl _) _)
  go_wp2_with (at_builtin;refine wpList_appB (v:=.slice (some ⟨wa.heap.size,0,none⟩) 0 0) (bs:=[]) (sv:=.slice ab nb cb) (l:=bs) (B:=wa.heap.size) (by rfl) _ _ (by rfl) (by rfl) HE.out (by rfl) HSE.out ?o2 ?o3 ?_)
  case o2=>simp;omega
  case o3=>simp
  intro v1 w1 ho1 ha1
  have hbn:Below wa.heap.size wa w1:=(LayF.app ha1).below ((Below.refl _ _).alloc (Nat.le_refl _) _) (by simp) (fun i hi=>by have:wa.heap.size=i:=Option.some.inj hi;omega)
  have HS1:Hid (St wa v1 bs w1):=⟨ho1,hbn⟩
  clear ho1 ha1 hbn
  clear f0 f1 f2 f3 f4 f5 f6 f7 f8 l0
  go_wp2_with fail
  go_ret
  exact ⟨_,rfl,by rw [HV.out];exact HS1.out.1.srcB,HBA.out.trans (HS1.out.bel.mono HBA.out.size)⟩
 by_cases h12:k=12
 ·subst h12
  as_aux_lemma=>
  have HV:Hid (valB (.mk 12 bits hi lo text more sub bs kids)=textB text++bs):=by show _=_;simp [valB]
  go_enter Tryz.func31,Tryz.ntmps31
  go_upto_region 1 with fail
  rw [← hwa]
  clear hwa
  go_upto_region 27 with fail
  have HKP:Hid (∀ W,Below wa.heap.size wa W→W.cell? ⟨w.heap.size,4,none⟩=some (.string text)∧W.cell? ⟨w.heap.size,7,none⟩=some (.slice ab nb cb)):=fun W hW=>by
   obtain ⟨f0,f1,f2,f3,f4,f5,f6,f7,f8,l0⟩:=(HBX.out W hW).nine
   exact ⟨f4,f7⟩
  go_region_held3 (fun W=>W.cell? ⟨w.heap.size,4,none⟩=some (.string text)∧W.cell? ⟨w.heap.size,7,none⟩=some (.slice ab nb cb)) ((with_reducible refine HKP.out _ ?_;(repeat' (first|with_reducible exact HS4.out.bel|with_reducible exact HS3.out.bel|with_reducible exact HS2.out.bel|with_reducible exact HS1.out.bel|with_reducible refine below_al ?_ _|with_reducible refine Below.drew ?_|with_reducible exact Below.refl _ _))))
   ((first
    | (go_at_call 54;(with_reducible refine (CT.out _ ?_).mono ?_);(case _=>(repeat' (first|with_reducible exact HS4.out.bel|with_reducible exact HS3.out.bel|with_reducible exact HS2.out.bel|with_reducible exact HS1.out.bel|with_reducible refine below_al ?_ _|with_reducible refine Below.drew ?_|with_reducible exact Below.refl _ _)));rintro e w1 ⟨v1,rfl,hs1,hb1,hz1⟩;have HS1:=Lib.hid hs1;have HA1:=Lib.hid (fun v l (h:St wa v l _)=>h.keep hb1);have HX1:=Lib.hid hs1.1.srcB;have HZ1:=Lib.hid hz1;clear hs1 hb1 hz1)
    | (refine arm_row (w:=wa) (v:=v1) (u:=.slice ab nb cb) (bs:=textB text) (l:=bs) (by rfl) _ _ (by rfl) (by rfl) (by rfl) ?_ ?_ ?_ ?_;(case _=>(repeat' (first|with_reducible exact HS4.out|with_reducible exact HS3.out|with_reducible exact HS2.out|with_reducible exact HS1.out|with_reducible refine St.alloc ?_ _|with_reducible refine St.drew ?_|with_reducible refine HA4.out _ _ ?_|with_reducible refine HA3.out _ _ ?_|with_reducible refine HA2.out _ _ ?_)));(case _=>(refine HSB.out _ ?_;(repeat' (first|with_reducible exact HS4.out.bel|with_reducible exact HS3.out.bel|with_reducible exact HS2.out.bel|with_reducible exact HS1.out.bel|with_reducible refine below_al ?_ _|with_reducible refine Below.drew ?_|with_reducible exact Below.refl _ _))));(case _=>first|omega|(simp [leB_len];done)|(simp [leB_len];omega));intro v3 w3 hs3 hl3;have HS3:=Lib.hid hs3;have HL3:=Lib.hid hl3;clear hs3 hl3)
    | fail))
  clear f0 f1 f2 f3 f4 f5 f6 f7 f8 l0
  go_wp2_with fail
  go_ret
  exact ⟨_,rfl,by rw [HV.out];exact HS3.out.1.srcB,HBA.out.trans (HS3.out.bel.mono HBA.out.size)⟩
 by_cases h3:k=3
 ·subst h3
  as_aux_lemma=>
  have HV:Hid (valB (.mk 3 bits hi lo text more sub bs kids)=docOf (kidsB kids)):=by show _=_;simp [valB]
  go_enter Tryz.func31,Tryz.ntmps31
  go_upto_region 1 with fail
  rw [← hwa]
  clear hwa
  go_wp2_with fail
  refine (HDK.out _ (Below.refl _ _)).mono ?_
  rintro e w1 ⟨v1,rfl,hs1,hb1,hz1⟩
  have HS1:=Lib.hid hs1
  clear hs1 hb1 hz1
  clear f0 f1 f2 f3 f4 f5 f6 f7 f8 l0
  go_wp2_with fail
  go_ret
  exact ⟨_,rfl,by rw [HV.out];exact HS1.out.1.srcB,HBA.out.trans (HS1.out.bel.mono HBA.out.size)⟩
 by_cases h4:k=4
 ·subst h4
  as_aux_lemma=>
  have HV:Hid (valB (.mk 4 bits hi lo text more sub bs kids)=docOf (kidsB kids)):=by show _=_;simp [valB]
  go_enter Tryz.func31,Tryz.ntmps31
  go_upto_region 1 with fail
  rw [← hwa]
  clear hwa
  go_wp2_with fail
  refine (HDK.out _ (Below.refl _ _)).mono ?_
  rintro e w1 ⟨v1,rfl,hs1,hb1,hz1⟩
  have HS1:=Lib.hid hs1
  clear hs1 hb1 hz1
  clear f0 f1 f2 f3 f4 f5 f6 f7 f8 l0
  go_wp2_with fail
  go_ret
  exact ⟨_,rfl,by rw [HV.out];exact HS1.out.1.srcB,HBA.out.trans (HS1.out.bel.mono HBA.out.size)⟩
 by_cases h15:k=15
 ·subst h15
  as_aux_lemma=>
  have HV:Hid (valB (.mk 15 bits hi lo text more sub bs kids)=scopeOf (textB text++docOf (kidsB kids))):=by show _=_;simp [valB]
  obtain ⟨M,hM⟩:∃ M,M=(textB text++docOf (kidsB kids)).length:=⟨_,rfl⟩
  have hMb:M≤2000000:=by rw [hM,List.length_append];omega
  obtain ⟨M4,hM4⟩:∃ x,x=M+4:=⟨_,rfl⟩
  have e1:IntKind.i64.wrap ((M:Int)+4)=(M4:Int):=(IntWalk.i64_in _ (by omega)).trans (by omega)
  have e2:IntKind.u64.wrap (M4:Int)=(M4:Int):=wrap_u64_of (by omega) (by omega)
  have hM4o:M4 < okSize:=by unfold okSize;omega
  have hM4b:M4≤3000000:=by omega
  have HM:=Lib.hid hM
  have HM4:=Lib.hid hM4
  clear hM hM4
  go_enter Tryz.func31,Tryz.ntmps31
  go_upto_region 1 with fail
  rw [← hwa]
  clear hwa
  go_upto_region 32 with fail
  have HKP:Hid (∀ W,Below wa.heap.size wa W→W.cell? ⟨w.heap.size,4,none⟩=some (.string text)∧W.cell? ⟨w.heap.size,8,none⟩=some (.slice ak nk ck)):=fun W hW=>by
   obtain ⟨f0,f1,f2,f3,f4,f5,f6,f7,f8,l0⟩:=(HBX.out W hW).nine
   exact ⟨f4,f8⟩
  go_region_held3 (fun W=>W.cell? ⟨w.heap.size,4,none⟩=some (.string text)∧W.cell? ⟨w.heap.size,8,none⟩=some (.slice ak nk ck)) ((with_reducible refine HKP.out _ ?_;(repeat' (first|with_reducible exact HS4.out.bel|with_reducible exact HS3.out.bel|with_reducible exact HS2.out.bel|with_reducible exact HS1.out.bel|with_reducible refine below_al ?_ _|with_reducible refine Below.drew ?_|with_reducible exact Below.refl _ _))))
   ((first
    | (go_at_call 54;(with_reducible refine (CT.out _ ?_).mono ?_);(case _=>(repeat' (first|with_reducible exact HS4.out.bel|with_reducible exact HS3.out.bel|with_reducible exact HS2.out.bel|with_reducible exact HS1.out.bel|with_reducible refine below_al ?_ _|with_reducible refine Below.drew ?_|with_reducible exact Below.refl _ _)));rintro e w1 ⟨v1,rfl,hs1,hb1,hz1⟩;have HS1:=Lib.hid hs1;have HA1:=Lib.hid (fun v l (h:St wa v l _)=>h.keep hb1);have HX1:=Lib.hid hs1.1.srcB;have HZ1:=Lib.hid hz1;clear hs1 hb1 hz1)
    | (go_at_call 17;(with_reducible refine (HDK.out _ ?_).mono ?_);(case _=>(repeat' (first|with_reducible exact HS4.out.bel|with_reducible exact HS3.out.bel|with_reducible exact HS2.out.bel|with_reducible exact HS1.out.bel|with_reducible refine below_al ?_ _|with_reducible refine Below.drew ?_|with_reducible exact Below.refl _ _)));rintro e w2 ⟨v2,rfl,hs2,hb2,hz2⟩;have HS2:=Lib.hid hs2;have HA2:=Lib.hid (fun v l (h:St wa v l _)=>h.keep hb2);have HX2:=Lib.hid hs2.1.srcB;have HZ2:=Lib.hid hz2;clear hs2 hb2 hz2)
    | (refine arm_row (w:=wa) (v:=v1) (u:=v2) (bs:=textB text) (l:=docOf (kidsB kids)) (by rfl) _ _ (by rfl) (by rfl) (by rfl) ?_ ?_ ?_ ?_;(case _=>(repeat' (first|with_reducible exact HS4.out|with_reducible exact HS3.out|with_reducible exact HS2.out|with_reducible exact HS1.out|with_reducible refine St.alloc ?_ _|with_reducible refine St.drew ?_|with_reducible refine HA4.out _ _ ?_|with_reducible refine HA3.out _ _ ?_|with_reducible refine HA2.out _ _ ?_)));(case _=>exact HX2.out);(case _=>first|omega|(simp [leB_len];done)|(simp [leB_len];omega));intro v3 w3 hs3 hl3;have HS3:=Lib.hid hs3;have HL3:=Lib.hid hl3;clear hs3 hl3)
    | fail))
  clear f0 f1 f2 f3 f4 f5 f6 f7 f8 l0
  obtain ⟨a3,c3,hv3,hr3⟩:=HS3.out.1.reads
  have HO3:=Lib.hid HS3.out.1.srcB
  rw [← HM.out] at hv3
  subst hv3
  clear hr3
  go_wp2_with fail
  refine (CP.out M4 4 4 _ rfl hM4o (by omega) (by omega) HS3.out.bel).mono ?_
  rintro e w4 ⟨v4,rfl,hs4,hb4,hz4⟩
  have HS4:=Lib.hid hs4
  have HO4:=Lib.hid (HO3.out.keep hb4)
  clear hs4 hb4 hz4
  go_wp2_with (at_builtin;refine wpList_appB (v:=v4) (bs:=leBytes 4 M4) (sv:=.slice a3 M c3) (l:=textB text++docOf (kidsB kids)) (B:=wa.heap.size) (by rfl) _ _ (by rfl) (by rfl) HS4.out.1 (by rfl) HO4.out ?o1 HS4.out.size ?_)
  case o1=>have:=HM.out;rw [leB_len,← this];omega
  intro v5 w5 ho5 ha5
  have HS5:Hid (St wa v5 (leBytes 4 M4++(textB text++docOf (kidsB kids))) w5):=HS4.out.lay ho5 (LayF.app ha5)
  clear ho5 ha5
  go_wp2_with fail
  go_ret
  exact ⟨_,rfl,by rw [HV.out];unfold scopeOf;rw [← HM.out,← HM4.out];exact HS5.out.1.srcB,HBA.out.trans (HS5.out.bel.mono HBA.out.size)⟩
 have n1:(k == 1)=false:=by simpa using h1
 have n9:(k == 9)=false:=by simpa using h9
 have n17:(k == 17)=false:=by simpa using h17
 have n18:(k == 18)=false:=by simpa using h18
 have n16:(k == 16)=false:=by simpa using h16
 have n8:(k == 8)=false:=by simpa using h8
 have n19:(k == 19)=false:=by simpa using h19
 have n2:(k == 2)=false:=by simpa using h2
 have n13:(k == 13)=false:=by simpa using h13
 have n14:(k == 14)=false:=by simpa using h14
 have n11:(k == 11)=false:=by simpa using h11
 have n5:(k == 5)=false:=by simpa using h5
 have n7:(k == 7)=false:=by simpa using h7
 have n12:(k == 12)=false:=by simpa using h12
 have n3:(k == 3)=false:=by simpa using h3
 have n4:(k == 4)=false:=by simpa using h4
 have n15:(k == 15)=false:=by simpa using h15
 have HV:Hid (valB (.mk k bits hi lo text more sub bs kids)=[]):=by show _=_;simp [valB,h1,h9,h17,h18,h16,h8,h19,h2,h13,h14,h11,h5,h7,h12,h3,h4,h15]
 go_enter Tryz.func31,Tryz.ntmps31
 go_upto_region 1 with fail
 rw [← hwa]
 clear hwa
 go_wp2_with fail
 go_ret
 exact ⟨_,rfl,by rw [HV.out];exact ⟨none,0,0,rfl,RdB.nil _ _,fun _=>rfl⟩,HBA.out⟩
theorem rval_all:∀ d,RValSaid d
 | 0=>fun t hd=>by cases t;simp only [T.wt] at hd;omega
 | d+1=>rval_step d (rdoc_step d (rval_all d))
theorem rdoc_all (d:Nat):RDocSaid d:=rdoc_step d (rval_all d)
def RSizeSaid (d:Nat):Prop:=∀ (t:T),t.wt≤d→∀ (w:World) (c:Array Value),RdT w t c→Calls Tryz.prog 16 #[.agg c] w fun e w'=>e=.returned (.int .i64 (sizeT t))∧Below w.heap.size w w'
def tailS (k:Int) (text:Nat) (s:Int):Int:=bif k == 15 then text+9+s else s
theorem ownSize_tail (k sub:Int) (text more bs:Nat) (s:Int) (h:k=3∨k=4∨k=15):ownSize k sub text more bs s=tailS k text s:=by
 rcases h with rfl|rfl|rfl<;>rfl
set_option maxRecDepth 100000 in
set_option maxHeartbeats 4000000 in
theorem rsize_step (d:Nat) (hd:d≤1000000000) (hof:RSizeSaid d):RSizeSaid (d+1):=by
 intro t ht w c h
 obtain ⟨k,bits,hi,lo,text,more,sub,bs,kids⟩:=t
 obtain ⟨ab,nb,cb,ak,nk,ck,rfl,hok,hrb,hkl,hnk,hks⟩:=h
 have hkd:kids.wt≤d:=by simp only [T.wt] at ht;omega
 have hkb:=sizeF_bd kids
 have hbl:=hrb.1
 have hxt:(text.size:Int)≤1000000001:=by simp only [T.wt] at ht;omega
 have hxm:(more.size:Int)≤1000000001:=by simp only [T.wt] at ht;omega
 have hxb:(nb:Int)≤1000000001:=by simp only [T.wt] at ht;omega
 have HO:=Lib.hid hof
 have HKS:=Lib.hid hks
 have HL:=Lib.hid hkl
 have HF:Hid (sizeT (.mk k bits hi lo text more sub bs kids)=ownSize k sub text.size more.size nb (5+sizeF kids)):=by
  show sizeT _=_
  simp only [sizeT];rw [hbl]
 clear hof hok hrb hkl hks ht hbl
 generalize sizeT (.mk k bits hi lo text more sub bs kids)=r at HF
 by_cases h3:k=3∨k=4∨k=15
 ·have HT:=Lib.hid (HF.out.trans (ownSize_tail _ _ _ _ _ _ h3))
  clear HF
  rcases h3 with rfl|rfl|rfl
  all_goals
   go_enter Tryz.func16,Tryz.ntmps16
   go_wp2_with fail
   go_loopw [4,5] (fun q i wr=>∃ (j:Nat) (s:Int),j≤nk∧i=.int .i64 j∧q=.int .i64 s∧0≤s∧s+sizeF (kids.drop j)=5+sizeF kids∧Below (w.heap.size+1) (w.alloc (.cells (valCells _ bits hi lo text more sub ab nb cb ak nk ck) 26)) wr) (fun _ i _=>nk - (intOf i).toNat)
   case atStart=>exact ⟨0,5,by omega,rfl,rfl,by omega,by simp [F.drop],Below.refl _ _⟩
   case round=>
    obtain ⟨j,s,hj,rfl,rfl,b0,hr,hbl⟩:=hrel
    have f0:=below_cell2 (p:=⟨w.heap.size,0,none⟩) hbl (by simp [go_sem,valCells];rfl) (by simp)
    have f4:wr.cell? ⟨w.heap.size,4,none⟩=some (.string text):=below_cell2 hbl (by simp [go_sem,valCells]) (by simp)
    have f8:wr.cell? ⟨w.heap.size,8,none⟩=some (.slice ak nk ck):=below_cell2 hbl (by simp [go_sem,valCells]) (by simp)
    have hsz:w.heap.size+1≤wr.heap.size:=by have:=hbl.size;simp at this;omega
    have HKW:=Lib.hid (HKS.out.keep (((Below.refl w.heap.size w).alloc (Nat.le_refl _) _).trans (hbl.mono (by omega))))
    have HBW:=Lib.hid hbl
    clear hbl
    by_cases hlt:j < nk
    ·obtain ⟨⟨nm,t⟩,hx⟩:=F.get_some kids j (by rw [HL.out];exact hlt)
     have hw:=F.wt_get kids j nm t hx
     have hg:=sizeF_get kids j nm t hx
     have hb1:=sizeT_bd t
     have hb2:=sizeF_bd (kids.drop (j+1))
     obtain ⟨b,o,k',bits',hi',lo',text',more',sub',bs',kids',ab',nb',cb',ak',nk',ck',rfl,rfl,e1,e2,e3,g0,g1,g2,g3,g4,g5,g6,g7,g8,g9⟩:=(HKW.out.at hx).cells
     have HC:=Lib.hid (HO.out _ (show T.wt (.mk k' bits' hi' lo' text' more' sub' bs' kids')≤d by omega))
     have E3:=Lib.hid e3
     have hs:s+((nm.size+2+sizeT (.mk k' bits' hi' lo' text' more' sub' bs' kids'))+sizeF (kids.drop (j+1)))=5+sizeF kids:=by rw [← hg];exact hr
     have HS:=Lib.hid hs
     clear hx hg hr e3 hw
     generalize sizeT (.mk k' bits' hi' lo' text' more' sub' bs' kids')=z at hb1 hs HS HC
     have hz:s+(nm.size+2+z)≤13000000000:=by omega
     have hj0:(0:Int)≤(j:Int):=by omega
     have hj1:(j:Int) < (nk:Int):=by omega
     clear hs
     have q3:IntKind.i64.wrap (s+(nm.size:Int)+2+z)=s+(nm.size:Int)+2+z:=IntWalk.i64_in _ (by omega)
     have q2:IntKind.i64.wrap (s+(nm.size:Int)+2)=s+(nm.size:Int)+2:=IntWalk.i64_in _ (by omega)
     have q1:IntKind.i64.wrap (s+(nm.size:Int))=s+(nm.size:Int):=IntWalk.i64_in _ (by omega)
     go_wp2_with fail
     go_region_held3 (fun w'=>w'.cell? ⟨w.heap.size,8,none⟩=some (.slice (some ⟨b,o,none⟩) nk ck)∧w'.cell? ⟨b,o+j * 10,none⟩=some (.string nm)∧w'.cell? ⟨b,o+j * 10+1,none⟩=some (.int .i64 k')∧w'.cell? ⟨b,o+j * 10+2,none⟩=some (.int .u64 (bits':Nat))∧w'.cell? ⟨b,o+j * 10+3,none⟩=some (.int .u64 (hi':Nat))∧w'.cell? ⟨b,o+j * 10+4,none⟩=some (.int .u64 (lo':Nat))∧w'.cell? ⟨b,o+j * 10+5,none⟩=some (.string text')∧w'.cell? ⟨b,o+j * 10+6,none⟩=some (.string more')∧w'.cell? ⟨b,o+j * 10+7,none⟩=some (.int .i64 sub')∧w'.cell? ⟨b,o+j * 10+8,none⟩=some (.slice ab' nb' cb')∧w'.cell? ⟨b,o+j * 10+9,none⟩=some (.slice ak' nk' ck')) (first|go_keep|((repeat' apply And.intro)<;>(refine below_cell ‹Below _ _ _› ?_;simp [*]))) ((go_at_call 16;refine (HC.out _ _ ?_).mono ?_;(exact E3.out.keep (Below.refl _ _).drew);rintro e w' ⟨rfl,hb⟩))
     go_wp2_with fail
     go_roundw
     case rel=>exact ⟨j+1,_,by omega,by simp,rfl,by omega,by rw [← HS.out];omega,HBW.out.trans (((Below.refl _ _).drew).trans (hb.mono hsz))⟩
     case measure=>simp [intOf];omega
    ·have hf:Hid (5+sizeF kids=s):=by
      show 5+sizeF kids=s
      rw [← hr,F.drop_len kids j (by rw [HL.out];omega)]
      simp only [sizeF]
      omega
     have hsb:s≤13000000000:=by have:=hf.out;omega
     clear hr
     go_wp2_with fail
     go_ret
     exact ⟨by rw [HT.out,hf.out];simp [tailS];try omega,((Below.refl w.heap.size w).alloc (Nat.le_refl _) _).trans (HBW.out.mono (by omega))⟩
 ·have n1:(k == 3)=false:=by simp;omega
  have n2:(k == 4)=false:=by simp;omega
  have n3:(k == 15)=false:=by simp;omega
  clear h3
  go_enter Tryz.func16,Tryz.ntmps16
  go_wp2_with fail
  all_goals
   go_ret
   refine ⟨by rw [HF.out];simp only [ownSize, *,cond_true,cond_false];rfl,?_⟩
   exact (Below.refl _ _).alloc (Nat.le_refl _) _
theorem rsize_all:∀ d,d≤1000000001→RSizeSaid d
 | 0,_=>fun t ht=>by cases t;simp only [T.wt] at ht;omega
 | d+1,h=>rsize_step d (by omega) (rsize_all d (by omega))
end Go.Proofs.YtmooaepbdmengaaGreatDoor
