/- Parts of the proof of SniffWritten: MtG. -/
import Derived.Test.YtmooaepbdmengaaGreatDoorZ19
import Derived.Test.YtmooaepbdmengaaGreatDoorZ06
import Derived.Deep.RegionLaw
import Derived.Deep.CutRange
namespace Go.Proofs.YtmooaepbdmengaaGreatDoor
open Go.RowKit
set_option linter.unusedVariables false
set_option linter.unusedSimpArgs false
theorem extZ_of {S0:Nat→Prop} {w wa W:World} {u:Value} {l:List UInt8} (h:StZ wa u l W) (h2:w.heap.size+2≤wa.heap.size):∃ a c,u=.slice a l.length c∧Hid (RdBS (fun k=>S0 k∨w.heap.size+2≤k) W a l.length l)∧Hid (Roomy a l.length c):=by
 obtain ⟨g,cap,rfl,hB,hlc,hcm,-,-⟩:=h.1
 obtain ⟨a,m,c,e,hr,-⟩:=h.1.src (by omega)
 simp only [Value.slice.injEq] at e
 obtain ⟨rfl,rfl,rfl⟩:=e
 exact ⟨_,cap,rfl,Lib.hid ⟨hr,fun _ p hp=>.inr (by obtain rfl:=Option.some.inj hp;show w.heap.size+2≤g;omega)⟩,Lib.hid ⟨by simp,hlc⟩⟩
def GRel (S0:Nat→Prop) (w:World) (T N9:Nat) (l:List UInt8) (W:World):Prop:=
 ∃ (a:Option Addr) (c:Nat),BoxI W (w.heap.size+1) (itCells 10 T a N9 c ⟨#[]⟩ none 0 0)∧RdIt (fun k=>S0 k∨w.heap.size+2≤k) W (extI T l) (itCells 10 T a N9 c ⟨#[]⟩ none 0 0)∧Below w.heap.size w W
theorem GRel.of {S0:Nat→Prop} {w w6:World} {T N9:Nat} {l:List UInt8} {a:Option Addr} {c:Nat} (hS:∀ k,S0 k→k < w.heap.size) (hx:BoxI w6 (w.heap.size+1) z5) (hi:RdIt (fun k=>S0 k∨w.heap.size+2≤k) w6 (extI T l) (itCells 10 T a N9 c ⟨#[]⟩ none 0 0)) (hb:Below w.heap.size w w6) :
  GRel S0 w T N9 l (((((w6.setCell ⟨w.heap.size+1,0,none⟩ (.int .i64 10)).setCell ⟨w.heap.size+1,1,none⟩ (.int .u64 (T:Nat))).setCell ⟨w.heap.size+1,2,none⟩ (.slice a N9 c)).setCell ⟨w.heap.size+1,3,none⟩ (.string ⟨#[]⟩)).setCell ⟨w.heap.size+1,4,none⟩ (.slice none 0 0)):=by
 have h5:=((((hx.set 0 (.int .i64 10) (by simp [z5]) (by omega)).set 1 (.int .u64 (T:Nat)) (by simp [z5]) (by omega)).set 2 (.slice a N9 c) (by simp [z5]) (by omega)).set 3 (.string ⟨#[]⟩) (by simp [z5]) (by omega)).set 4 (.slice none 0 0) (by simp [z5]) (by omega)
 have hC:Chg (fun k=>k=w.heap.size+1) w6 (((((w6.setCell ⟨w.heap.size+1,0,none⟩ (.int .i64 10)).setCell ⟨w.heap.size+1,1,none⟩ (.int .u64 (T:Nat))).setCell ⟨w.heap.size+1,2,none⟩ (.slice a N9 c)).setCell ⟨w.heap.size+1,3,none⟩ (.string ⟨#[]⟩)).setCell ⟨w.heap.size+1,4,none⟩ (.slice none 0 0)):=by
  iterate 5 (refine Chg.set2 ?_ (by exact rfl) _ _)
  exact Chg.refl _ _
 refine ⟨a,c,by simpa [z5] using h5,hi.keep (KeepS.chg hC (fun i hi e=>by rcases hi with hi|hi;have:=hS i hi;omega;omega)),hb.trans (hC.below hb.size (fun i hi=>by omega))⟩
set_option maxRecDepth 100000 in
set_option maxHeartbeats 32000000 in
theorem mtem_11 (S0:Nat→Prop) (t:T) (w:World) (hS:∀ k,S0 k→k < w.heap.size) (bits hi lo:Nat) (text more:ByteArray) (sub:Int) (ab:Option Addr) (nb cb:Nat) (ak:Option Addr) (nk ck:Nat) (hw:text.size+more.size+2≤t.wt) (ht9:t.wt≤40000):Calls Tryz.prog 43 #[.agg (valCells 11 bits hi lo text more sub ab nb cb ak nk ck)] w (MtOut S0 t w):=by
 have hTB:=two_boxes w (valCells 11 bits hi lo text more sub ab nb cb ak nk ck)
 obtain ⟨wa,hwa⟩:∃ W,W=((w.alloc (.cells (valCells 11 bits hi lo text more sub ab nb cb ak nk ck) 26)).alloc (.cells #[.int .i64 0,.int .u64 0,.slice none 0 0,.string ⟨#[]⟩,.slice none 0 0] 39)):=⟨_,rfl⟩
 have hTB:BoxI wa (w.heap.size+1) z5∧Below w.heap.size w wa:=by rw [hwa];exact hTB
 have hBV:BoxV wa w.heap.size (valCells 11 bits hi lo text more sub ab nb cb ak nk ck):=by rw [hwa];exact (BoxV.new w _ _).keep ((Below.refl _ _).alloc (Nat.le_refl _) _)
 have HTB:=Lib.hid hTB
 have HS:=Lib.hid hS
 obtain ⟨T,hT⟩:∃ T:Nat,T=sortM 11:=⟨_,rfl⟩
 have HT9:Hid (T≤127):=Lib.hid (by rw [hT];decide)
 have HX:Hid (∀ (a:Option Addr) (n c:Nat) (W:World),Calls Tryz.prog 64 #[.int .i64 11,.slice a n c] W fun e w'=>e=.returned (.agg (itCells 10 T a n c ⟨#[]⟩ none 0 0))∧Below W.heap.size W w'):=Lib.hid fun a n c W=>by rw [hT];exact exted_calls 11 (by omega) a n c W
 clear hT
 have HBX:Hid (∀ W,Below wa.heap.size wa W→W.cell? ⟨w.heap.size,0,none⟩=some (.int .i64 11)∧W.cell? ⟨w.heap.size,4,none⟩=some (.string text)∧W.cell? ⟨w.heap.size,5,none⟩=some (.string more)∧w.heap.size < W.heap.size):=Lib.hid fun W hW=>⟨cell_below hW (hBV.2 0 (by omega)).1,cell_below hW (hBV.2 4 (by omega)).1,cell_below hW (hBV.2 5 (by omega)).1,Nat.lt_of_lt_of_le hBV.1 hW.size⟩
 have hz2:w.heap.size+2≤wa.heap.size:=HTB.out.1.1
 have hst1:=sl_len text
 have hst2:=sl_len more
 obtain ⟨N9,hN9⟩:∃ N,N=(sl text++[UInt8.ofNat 0]++sl more).length:=⟨_,rfl⟩
 have HLZ:Hid ((sl text++[UInt8.ofNat 0]++sl more).length=N9):=Lib.hid hN9.symm
 have HW:Hid (szM (extI T (sl text++[UInt8.ofNat 0]++sl more))+9≤20 * t.wt):=Lib.hid (by rw [sz_ext];simp only [List.length_append,List.length_cons,List.length_nil];omega)
 have htx9:text.size≤40000:=by omega
 have hmr9:more.size≤40000:=by omega
 clear hS hTB hN9 hw ht9
 obtain ⟨cv0,cw0,hrun0,hc0,hl0,hz0⟩:=conv_let wa (wa.drew) (Below.refl _ _).drew text (by omega)
 have HC0:=Lib.hid hc0
 have HCL0:=Lib.hid hl0
 have HCZ0:=Lib.hid hz0
 clear hc0 hl0 hz0
 obtain ⟨cv1,cw1,hrun1,hc1,hl1,hz1⟩:=conv_let wa ((wa.alloc (.cells #[.int .u8 0] 5)).drew) (below_al (Below.refl _ _) _).drew text (by omega)
 have HC1:=Lib.hid hc1
 have HCL1:=Lib.hid hl1
 have HCZ1:=Lib.hid hz1
 clear hc1 hl1 hz1
 obtain ⟨f0,f4,f5,fl⟩:=HBX.out wa (Below.refl _ _)
 clear hBV
 go_enter Tryz.func43,Tryz.ntmps43
 go_upto_region 32 with fail
 rw [← hwa]
 clear hwa
 obtain ⟨c00,c04,c05,cl0⟩:=HBX.out cw0 HC0.out.bel
 obtain ⟨c10,c14,c15,cl1⟩:=HBX.out cw1 HC1.out.bel
 go_cut [] from 102 to 112 (fun W=>GRel S0 w T N9 (sl text++[UInt8.ofNat 0]++sl more) W)
 case first=>
  go_region_law ((first
   | (refine armZ_one (w:=wa) (v:=cv0) (bs:=sl text) (x:=0) (by rfl) _ _ (by rfl) (by rfl) (by rfl) ?_ ?_ (by omega) ?_ ?_;(case _=>(repeat' (first|with_reducible exact HC1.out|with_reducible exact HC0.out|with_reducible exact HS2.out|with_reducible exact HS1.out|with_reducible refine StZ.alloc ?_ _|with_reducible refine StZ.drew ?_)));(case _=>(repeat' (first|((with_reducible refine Zg.newZ0 ?_ ?_ _);(case _=>first|(refine HVL1.out _ ?_;(first|(simp;done)|(simp;omega)))|(refine HCL1.out _ ?_;(first|(simp;done)|(simp;omega)))|(refine HCL0.out _ ?_;(first|(simp;done)|(simp;omega))));(case _=>first|rfl|(simp [World.drew];done)))|((with_reducible refine HCZ0.out _ ?_);(simp [go_sem];done))|((with_reducible refine HCZ1.out _ ?_);(simp [go_sem];done))|with_reducible refine Zg.alloc ?_ _|with_reducible refine Zg.drew ?_)));(case _=>first|omega|(simp;done)|(simp;omega));intro v1 w1 hs1 hl1;have HS1:=Lib.hid hs1;have HL1:=Lib.hid hl1;have HVL1:=Lib.hid (hs1.lt (by first|(simp;done)|(simp;omega)));obtain ⟨g0,g4,g5,gl⟩:=HBX.out w1 hs1.bel;clear hs1 hl1)
   | (refine armZ_one (w:=wa) (v:=cv1) (bs:=sl text) (x:=0) (by rfl) _ _ (by rfl) (by rfl) (by rfl) ?_ ?_ (by omega) ?_ ?_;(case _=>(repeat' (first|with_reducible exact HC1.out|with_reducible exact HC0.out|with_reducible exact HS2.out|with_reducible exact HS1.out|with_reducible refine StZ.alloc ?_ _|with_reducible refine StZ.drew ?_)));(case _=>(repeat' (first|((with_reducible refine Zg.newZ0 ?_ ?_ _);(case _=>first|(refine HVL1.out _ ?_;(first|(simp;done)|(simp;omega)))|(refine HCL1.out _ ?_;(first|(simp;done)|(simp;omega)))|(refine HCL0.out _ ?_;(first|(simp;done)|(simp;omega))));(case _=>first|rfl|(simp [World.drew];done)))|((with_reducible refine HCZ0.out _ ?_);(simp [go_sem];done))|((with_reducible refine HCZ1.out _ ?_);(simp [go_sem];done))|with_reducible refine Zg.alloc ?_ _|with_reducible refine Zg.drew ?_)));(case _=>first|omega|(simp;done)|(simp;omega));intro v1 w1 hs1 hl1;have HS1:=Lib.hid hs1;have HL1:=Lib.hid hl1;have HVL1:=Lib.hid (hs1.lt (by first|(simp;done)|(simp;omega)));obtain ⟨g0,g4,g5,gl⟩:=HBX.out w1 hs1.bel;clear hs1 hl1)
   | (refine armZ_txt (w:=wa) (v:=v1) (bs:=sl text++[UInt8.ofNat 0]) (t:=more) (by rfl) _ _ (by rfl) (by rfl) (by rfl) ?_ ?_ ?_;(case _=>(repeat' (first|with_reducible exact HC1.out|with_reducible exact HC0.out|with_reducible exact HS2.out|with_reducible exact HS1.out|with_reducible refine StZ.alloc ?_ _|with_reducible refine StZ.drew ?_)));(case _=>first|omega|(simp;done)|(simp;omega));intro v2 w2 hs2 hl2;have HS2:=Lib.hid hs2;obtain ⟨g0,g4,g5,gl⟩:=HBX.out w2 hs2.bel;obtain ⟨aZ,cZ,rfl,HRZ,HOZ⟩:=extZ_of (S0:=S0) hs2 hz2;rw [HLZ.out] at HRZ HOZ ⊢;clear hs2 hl2)
   | (go_simp;go_at_call 64;(with_reducible refine (HX.out aZ N9 cZ _).mono ?_);rintro e w6 ⟨rfl,hb6⟩;have hx6:=below_then3' (a:=wa) (by (repeat' (first|with_reducible assumption|with_reducible exact HS2.out.bel|with_reducible refine Below.drew ?_|with_reducible refine Below.alloc ?_ (by first|omega|exact Nat.le_refl _|(simp;omega)) _|with_reducible exact Below.refl _ _))) hb6;have HB6:=Lib.hid (HTB.out.2.trans (hx6.mono HTB.out.2.size));have HX6:=Lib.hid (HTB.out.1.keep hx6);have HI6:=Lib.hid (show RdIt (fun k=>S0 k∨w.heap.size+2≤k) w6 _ _ from rdit_ext T (by have:=HT9.out;omega) (HRZ.out.chgZ (below_then3' (a:=w2) (by (repeat' (first|with_reducible assumption|with_reducible exact HS2.out.bel|with_reducible refine Below.drew ?_|with_reducible refine Below.alloc ?_ (by first|omega|exact Nat.le_refl _|(simp;omega)) _|with_reducible exact Below.refl _ _))) hb6)) HOZ.out);obtain ⟨p0,p1,p2,p3,p4,r0,r1,r2,r3,r4,r5⟩:=HX6.out.zs;clear hb6 hx6)
   | fail))
  all_goals
   go_wp2_with fail
   go_meet
   case rel=>exact GRel.of HS.out HX6.out HI6.out HB6.out
 obtain ⟨aZ,cZ,hbx,hit,hbl⟩:=hcut
 have HBX2:=Lib.hid hbx
 have HIT:=Lib.hid hit
 have HBL:=Lib.hid hbl
 have q0:wc.cell? ⟨w.heap.size+1,0,none⟩=some (.int .i64 10):=(hbx.2 0 (by omega)).1
 have q1:wc.cell? ⟨w.heap.size+1,1,none⟩=some (.int .u64 (T:Nat)):=(hbx.2 1 (by omega)).1
 have q2:wc.cell? ⟨w.heap.size+1,2,none⟩=some (.slice aZ N9 cZ):=(hbx.2 2 (by omega)).1
 have q3:wc.cell? ⟨w.heap.size+1,3,none⟩=some (.string ⟨#[]⟩):=(hbx.2 3 (by omega)).1
 have q4:wc.cell? ⟨w.heap.size+1,4,none⟩=some (.slice none 0 0):=(hbx.2 4 (by omega)).1
 clear hbx hit hbl
 go_wp2_with fail
 refine bodyPost_ret (v:=.agg (itCells 10 T aZ N9 cZ ⟨#[]⟩ none 0 0)) (by simp [results,Tryz.results43,go_sem, *]) rfl ?_
 exact mt_fin HS.out HIT.out (ok_ext T _ HT9.out) HW.out HBL.out (Chg.refl _ _)
end Go.Proofs.YtmooaepbdmengaaGreatDoor
