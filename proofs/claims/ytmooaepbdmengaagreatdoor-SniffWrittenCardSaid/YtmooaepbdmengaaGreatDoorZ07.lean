/- Parts of the proof of SniffWritten: BoRX. -/
import Derived.Test.YtmooaepbdmengaaGreatDoorZ06
import Derived.Deep.Cut
namespace Go.Proofs.YtmooaepbdmengaaGreatDoor
open Go.RowKit
set_option linter.unusedVariables false
set_option linter.unusedSimpArgs false
theorem St.of {w W W':World} {v:Value} {bs:List UInt8} (hb:Below w.heap.size w W) (ho:OwnB W' W.heap.size v bs) (hb2:Below W.heap.size W W'):St w v bs W':=⟨ho.weaken hb.size,hb.trans (hb2.mono hb.size)⟩
theorem Zg.call {W W':World} {x g:Nat} {v:Value} {bs:List UInt8} (hz:W.cell? ⟨g,0,none⟩=some (.int .u8 (x:Nat))) (hb2:Below W.heap.size W W') (ho:OwnB W' W.heap.size v bs):Zg W' v x g:=
 ⟨cell_below hb2 hz,fun e=>by have:=(owns_lt ho g e).1;have:g < W.heap.size:=cell_block hz;omega⟩
def NewB (w W:World) (bs:List UInt8) (e:Ending) (w':World):Prop:=∃ v,e=.returned v∧St w v bs w'∧Below W.heap.size W w'∧∀ g x:Nat,W.cell? ⟨g,0,none⟩=some (.int .u8 (x:Nat))→Zg w' v x g
theorem NewB.of {w W:World} {bs:List UInt8} (hb:Below w.heap.size w W) {e:Ending} {w':World} (h:BytesPost W bs e w'):NewB w W bs e w':=by
 obtain ⟨v,rfl,ho,hb2⟩:=h
 exact ⟨v,rfl,St.of hb ho hb2,hb2,fun g x hz=>Zg.call hz hb2 ho⟩
theorem low_new (w:World) (x n:Nat) (N:Int) (W:World) (hN:(n:Int)=N) (hx:x < okSize) (h1:1≤n) (h8:n≤8) (hb:Below w.heap.size w W):Calls Tryz.prog 32 #[.int .u64 (x:Nat),.int .i64 N] W (NewB w W (leBytes n x)):=by
 subst hN
 exact (putLow_yes x n hx h1 h8 W).mono fun _ _ h=>NewB.of hb h
theorem text_new (w:World) (s:ByteArray) (hs:s.size≤1000000) (W:World) (hb:Below w.heap.size w W):Calls Tryz.prog 54 #[.string s] W (NewB w W (textB s)):=
 (rtext_calls s hs W).mono fun _ _ h=>NewB.of hb h
set_option maxRecDepth 100000 in
set_option maxHeartbeats 32000000 in
theorem rregex_calls (bits hi lo:Nat) (text more:ByteArray) (sub:Int) (bs:List UInt8) (kids:F) (hw9:2+text.size+more.size+bs.length+kids.wt≤90000) (w:World) (c:Array Value) (h:RdT w (.mk 11 bits hi lo text more sub bs kids) c) :
  Calls Tryz.prog 31 #[.agg c] w (RdPost w (valB (.mk 11 bits hi lo text more sub bs kids))):=by
 obtain ⟨ab,nb,cb,ak,nk,ck,rfl,hok,hrb,hkl,hnk,hks⟩:=h
 obtain ⟨-,hbits,hhi,hlo,-,-,-⟩:=hok
 have hbl2:bs.length=nb:=hrb.1
 have hst1:=sl_len text
 have hst2:=sl_len more
 have htl:=textB_len text
 have hdl:=docOf_len (kidsB kids)
 have hkb:=kidsB_len kids
 obtain ⟨wa,hwa⟩:∃ W,W=w.alloc (.cells (valCells 11 bits hi lo text more sub ab nb cb ak nk ck) 26):=⟨_,rfl⟩
 have hba:Below w.heap.size w wa:=by rw [hwa];exact (Below.refl _ _).alloc (Nat.le_refl _) _
 have hxa:BoxV wa w.heap.size (valCells 11 bits hi lo text more sub ab nb cb ak nk ck):=by rw [hwa];exact BoxV.new _ _ _
 have HBX:Hid (∀ W,Below wa.heap.size wa W→BoxV W w.heap.size (valCells 11 bits hi lo text more sub ab nb cb ak nk ck)):=fun W hW=>hxa.keep hW
 have HBA:=Lib.hid hba
 obtain ⟨f0,f1,f2,f3,f4,f5,f6,f7,f8,l0⟩:=hxa.nine
 have HSB:Hid (∀ W,Below wa.heap.size wa W→SrcB W (.slice ab nb cb) bs):=fun W hW=>⟨ab,nb,cb,rfl,(hrb.keep hba).keep hW,hnk.2.2.1⟩
 clear hkl hnk hrb hba hxa hks
 have HV:Hid (valB (.mk 11 bits hi lo text more sub bs kids)=(sl text++[0])++(sl more++[0])):=by show _=_;simp [valB]
 obtain ⟨cv0,cw0,hrun0,hc0,hl0,hz0⟩:=conv_let wa (wa.drew) (Below.refl _ _).drew text (by omega)
 have HC0:=Lib.hid hc0
 have HCL0:=Lib.hid hl0
 have HCZ0:=Lib.hid hz0
 clear hc0 hl0 hz0
 obtain ⟨cv1,cw1,hrun1,hc1,hl1,hz1⟩:=conv_let wa ((wa.alloc (.cells #[.int .u8 0] 5)).drew) (below_al (Below.refl _ _) _).drew text (by omega)
 have HC1:=Lib.hid hc1
 have HCL1:=Lib.hid hl1
 have HCZ1:=Lib.hid hz1
 clear hc1 hl1 hz1
 obtain ⟨cv2,cw2,hrun2,hc2,hl2,hz2⟩:=conv_let wa (((wa.alloc (.cells #[.int .u8 0] 5)).alloc (.cells #[.int .u8 0] 5)).drew) (below_al (below_al (Below.refl _ _) _) _).drew text (by omega)
 have HC2:=Lib.hid hc2
 have HCL2:=Lib.hid hl2
 have HCZ2:=Lib.hid hz2
 clear hc2 hl2 hz2
 go_enter Tryz.func31,Tryz.ntmps31
 go_upto_region 1 with fail
 rw [← hwa]
 clear hwa
 go_upto_region 18 with fail
 clear f0 f1 f2 f3 f6 f7 f8
 obtain ⟨-,-,-,-,-,gc0,-,-,-,mc0⟩:=(HBX.out cw0 HC0.out.bel).nine
 obtain ⟨-,-,-,-,-,gc1,-,-,-,mc1⟩:=(HBX.out cw1 HC1.out.bel).nine
 obtain ⟨-,-,-,-,-,gc2,-,-,-,mc2⟩:=(HBX.out cw2 HC2.out.bel).nine
 go_region_law ((first
   | (refine armZ_one (w:=wa) (v:=cv0) (bs:=sl text) (x:=0) (by rfl) _ _ (by rfl) (by rfl) (by rfl) ?_ ?_ (by omega) ?_ ?_;(case _=>(repeat' (first|with_reducible exact HC2.out|with_reducible exact HC1.out|with_reducible exact HC0.out|with_reducible exact HS3.out|with_reducible exact HS2.out|with_reducible exact HS1.out|with_reducible refine StZ.alloc ?_ _|with_reducible refine StZ.drew ?_)));(case _=>(repeat' (first|((with_reducible refine Zg.newZ0 ?_ ?_ _);(case _=>first|(refine HVL3.out _ ?_;(first|(simp;done)|(simp;omega)))|(refine HVL2.out _ ?_;(first|(simp;done)|(simp;omega)))|(refine HVL1.out _ ?_;(first|(simp;done)|(simp;omega)))|(refine HCL2.out _ ?_;(first|(simp;done)|(simp;omega)))|(refine HCL1.out _ ?_;(first|(simp;done)|(simp;omega)))|(refine HCL0.out _ ?_;(first|(simp;done)|(simp;omega))));(case _=>first|rfl|(simp [World.drew];done)))|((with_reducible refine HCZ0.out _ ?_);(simp [go_sem];done))|((with_reducible refine HCZ1.out _ ?_);(simp [go_sem];done))|((with_reducible refine HCZ2.out _ ?_);(simp [go_sem];done))|with_reducible refine Zg.lay HL2.out ?_|with_reducible refine Zg.lay HL1.out ?_|with_reducible refine Zg.alloc ?_ _|with_reducible refine Zg.drew ?_)));(case _=>first|omega|(simp;done)|(simp;omega));intro v1 w1 hs1 hl1;have HS1:=Lib.hid hs1;have HL1:=Lib.hid hl1;have HVL1:=Lib.hid (hs1.lt (by first|(simp;done)|(simp;omega)));clear hs1 hl1;obtain ⟨-,-,-,-,-,g1,-,-,-,m1⟩:=(HBX.out w1 HS1.out.bel).nine)
   | (refine armZ_one (w:=wa) (v:=cv1) (bs:=sl text) (x:=0) (by rfl) _ _ (by rfl) (by rfl) (by rfl) ?_ ?_ (by omega) ?_ ?_;(case _=>(repeat' (first|with_reducible exact HC2.out|with_reducible exact HC1.out|with_reducible exact HC0.out|with_reducible exact HS3.out|with_reducible exact HS2.out|with_reducible exact HS1.out|with_reducible refine StZ.alloc ?_ _|with_reducible refine StZ.drew ?_)));(case _=>(repeat' (first|((with_reducible refine Zg.newZ0 ?_ ?_ _);(case _=>first|(refine HVL3.out _ ?_;(first|(simp;done)|(simp;omega)))|(refine HVL2.out _ ?_;(first|(simp;done)|(simp;omega)))|(refine HVL1.out _ ?_;(first|(simp;done)|(simp;omega)))|(refine HCL2.out _ ?_;(first|(simp;done)|(simp;omega)))|(refine HCL1.out _ ?_;(first|(simp;done)|(simp;omega)))|(refine HCL0.out _ ?_;(first|(simp;done)|(simp;omega))));(case _=>first|rfl|(simp [World.drew];done)))|((with_reducible refine HCZ0.out _ ?_);(simp [go_sem];done))|((with_reducible refine HCZ1.out _ ?_);(simp [go_sem];done))|((with_reducible refine HCZ2.out _ ?_);(simp [go_sem];done))|with_reducible refine Zg.lay HL2.out ?_|with_reducible refine Zg.lay HL1.out ?_|with_reducible refine Zg.alloc ?_ _|with_reducible refine Zg.drew ?_)));(case _=>first|omega|(simp;done)|(simp;omega));intro v1 w1 hs1 hl1;have HS1:=Lib.hid hs1;have HL1:=Lib.hid hl1;have HVL1:=Lib.hid (hs1.lt (by first|(simp;done)|(simp;omega)));clear hs1 hl1;obtain ⟨-,-,-,-,-,g1,-,-,-,m1⟩:=(HBX.out w1 HS1.out.bel).nine)
   | (refine armZ_one (w:=wa) (v:=cv2) (bs:=sl text) (x:=0) (by rfl) _ _ (by rfl) (by rfl) (by rfl) ?_ ?_ (by omega) ?_ ?_;(case _=>(repeat' (first|with_reducible exact HC2.out|with_reducible exact HC1.out|with_reducible exact HC0.out|with_reducible exact HS3.out|with_reducible exact HS2.out|with_reducible exact HS1.out|with_reducible refine StZ.alloc ?_ _|with_reducible refine StZ.drew ?_)));(case _=>(repeat' (first|((with_reducible refine Zg.newZ0 ?_ ?_ _);(case _=>first|(refine HVL3.out _ ?_;(first|(simp;done)|(simp;omega)))|(refine HVL2.out _ ?_;(first|(simp;done)|(simp;omega)))|(refine HVL1.out _ ?_;(first|(simp;done)|(simp;omega)))|(refine HCL2.out _ ?_;(first|(simp;done)|(simp;omega)))|(refine HCL1.out _ ?_;(first|(simp;done)|(simp;omega)))|(refine HCL0.out _ ?_;(first|(simp;done)|(simp;omega))));(case _=>first|rfl|(simp [World.drew];done)))|((with_reducible refine HCZ0.out _ ?_);(simp [go_sem];done))|((with_reducible refine HCZ1.out _ ?_);(simp [go_sem];done))|((with_reducible refine HCZ2.out _ ?_);(simp [go_sem];done))|with_reducible refine Zg.lay HL2.out ?_|with_reducible refine Zg.lay HL1.out ?_|with_reducible refine Zg.alloc ?_ _|with_reducible refine Zg.drew ?_)));(case _=>first|omega|(simp;done)|(simp;omega));intro v1 w1 hs1 hl1;have HS1:=Lib.hid hs1;have HL1:=Lib.hid hl1;have HVL1:=Lib.hid (hs1.lt (by first|(simp;done)|(simp;omega)));clear hs1 hl1;obtain ⟨-,-,-,-,-,g1,-,-,-,m1⟩:=(HBX.out w1 HS1.out.bel).nine)
   | (refine armZ_txt (w:=wa) (v:=v1) (bs:=sl text++[UInt8.ofNat 0]) (t:=more) (by rfl) _ _ (by rfl) (by rfl) (by rfl) ?_ ?_ ?_;(case _=>(repeat' (first|with_reducible exact HC2.out|with_reducible exact HC1.out|with_reducible exact HC0.out|with_reducible exact HS3.out|with_reducible exact HS2.out|with_reducible exact HS1.out|with_reducible refine StZ.alloc ?_ _|with_reducible refine StZ.drew ?_)));(case _=>first|omega|(simp;done)|(simp;omega));intro v2 w2 hs2 hl2;have HS2:=Lib.hid hs2;have HL2:=Lib.hid hl2;have HVL2:=Lib.hid (hs2.lt (by first|(simp;done)|(simp;omega)));clear hs2 hl2;obtain ⟨-,-,-,-,-,g2,-,-,-,m2⟩:=(HBX.out w2 HS2.out.bel).nine)
   | (refine armZ_one (w:=wa) (v:=v2) (bs:=sl text++[UInt8.ofNat 0]++sl more) (x:=0) (by rfl) _ _ (by rfl) (by rfl) (by rfl) ?_ ?_ (by omega) ?_ ?_;(case _=>(repeat' (first|with_reducible exact HC2.out|with_reducible exact HC1.out|with_reducible exact HC0.out|with_reducible exact HS3.out|with_reducible exact HS2.out|with_reducible exact HS1.out|with_reducible refine StZ.alloc ?_ _|with_reducible refine StZ.drew ?_)));(case _=>(repeat' (first|((with_reducible refine Zg.newZ0 ?_ ?_ _);(case _=>first|(refine HVL3.out _ ?_;(first|(simp;done)|(simp;omega)))|(refine HVL2.out _ ?_;(first|(simp;done)|(simp;omega)))|(refine HVL1.out _ ?_;(first|(simp;done)|(simp;omega)))|(refine HCL2.out _ ?_;(first|(simp;done)|(simp;omega)))|(refine HCL1.out _ ?_;(first|(simp;done)|(simp;omega)))|(refine HCL0.out _ ?_;(first|(simp;done)|(simp;omega))));(case _=>first|rfl|(simp [World.drew];done)))|((with_reducible refine HCZ0.out _ ?_);(simp [go_sem];done))|((with_reducible refine HCZ1.out _ ?_);(simp [go_sem];done))|((with_reducible refine HCZ2.out _ ?_);(simp [go_sem];done))|with_reducible refine Zg.lay HL2.out ?_|with_reducible refine Zg.lay HL1.out ?_|with_reducible refine Zg.alloc ?_ _|with_reducible refine Zg.drew ?_)));(case _=>first|omega|(simp;done)|(simp;omega));intro v3 w3 hs3 hl3;have HS3:=Lib.hid hs3;have HL3:=Lib.hid hl3;have HVL3:=Lib.hid (hs3.lt (by first|(simp;done)|(simp;omega)));clear hs3 hl3;obtain ⟨-,-,-,-,-,g3,-,-,-,m3⟩:=(HBX.out w3 HS3.out.bel).nine)
   | fail))
 all_goals
  go_wp2_with fail
  go_ret
  refine ⟨v3,rfl,?_,HBA.out.trans (HS3.out.bel.mono HBA.out.size)⟩
  rw [HV.out]
  have hq:SrcB w3 v3 (sl text++[0]++sl more++[0]):=HS3.out.1.src (by simp;omega)
  simpa only [List.append_assoc] using hq
end Go.Proofs.YtmooaepbdmengaaGreatDoor
