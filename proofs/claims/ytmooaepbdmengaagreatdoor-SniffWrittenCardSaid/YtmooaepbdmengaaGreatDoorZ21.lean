/- Parts of the proof of SniffWritten: MtF. -/
import Derived.Test.YtmooaepbdmengaaGreatDoorZ19
import Derived.Test.YtmooaepbdmengaaGreatDoorZ20
import Derived.Test.YtmooaepbdmengaaGreatDoorZ13
import Derived.Deep.RegionLaw
namespace Go.Proofs.YtmooaepbdmengaaGreatDoor
open Go.RowKit
set_option linter.unusedVariables false
set_option linter.unusedSimpArgs false
def l5 (v:Value):Array Value:=#[.int .i64 5,.int .u64 0,.slice none 0 0,.string ⟨#[]⟩,v]
def LmRel (S0:Nat→Prop) (f:F) (w:World) (gi nk:Nat) (c8 i:Value) (wr:World):Prop:=
 ∃ (j:Nat) (v:Value) (g:IL),i=.int .i64 (j:Nat)∧j≤nk∧g.len=j∧OkMs g∧szMs g+20 * (f.drop j).wt≤20 * f.wt∧OwnI wr (gi+1) (fun k=>S0 k∨gi+1≤k) v g∧wr.cell? ⟨w.heap.size,8,none⟩=some c8∧BoxI wr (w.heap.size+1) z5∧BoxI wr gi (l5 v)∧Below w.heap.size w wr
theorem lm_next {S0:Nat→Prop} {f:F} {w wr w5:World} {gi nk j:Nat} {c8 v:Value} {g:IL} {nm:ByteArray} {t:T} {x:I} {a5:Option Addr} {N5 c5:Nat} (hgi:w.heap.size+2≤gi) (hlt:j < nk)
  (hO:OwnI w5 (gi+1) (fun k=>S0 k∨gi+1≤k) (.slice a5 N5 c5) (g.append (.cons x .nil))) (hC:Chg (fun k=>v.ownBlock=some k) wr w5) (hfar:∀ k,v.ownBlock=some k→gi+1≤k)
  (hc8:wr.cell? ⟨w.heap.size,8,none⟩=some c8) (hB1:BoxI wr (w.heap.size+1) z5) (hBg:BoxI wr gi (l5 v)) (hbl:Below w.heap.size w wr) (hgl:g.len=j) (hge:OkMs g) (hgw:szMs g+20 * (f.drop j).wt≤20 * f.wt)
  (hwt:nm.size+t.wt+(f.drop (j+1)).wt≤(f.drop j).wt∧(f.drop j).wt≤f.wt) (he:OkM x) (hw2:szM x+9≤20 * t.wt) (hS:∀ k,S0 k→k < w.heap.size) :
  LmRel S0 f w gi nk c8 (.int .i64 ((j:Int)+1)) (w5.setCell ⟨gi,4,none⟩ (.slice a5 N5 c5)):=by
 have hC1:=Chg.set1 w5 gi 4 (.slice a5 N5 c5)
 have hb5:Below w.heap.size w w5:=hbl.trans (hC.below hbl.size (fun i hi=>by have:=hfar i hi;omega))
 refine ⟨j+1,_,_,rfl,by omega,?_,okMs_app _ _ hge (okMs_one he),?_,ownI_chgZ hO hC1 ?_ ?_,hC1.cell (p:=⟨w.heap.size,8,none⟩) (fun e=>by have e2:w.heap.size=gi:=e;omega) (hC.cell (p:=⟨w.heap.size,8,none⟩) (fun e=>by have e2:=hfar w.heap.size e;omega) hc8),?_,?_,?_⟩
 ·rw [IL.append_len];simp only [IL.len];omega
 ·rw [szMs_app];simp only [szMs];omega
 ·intro k hk e
  rcases hk with hk|hk
  ·have:=hS k hk;omega
  ·omega
 ·intro k hk e
  have:=(hO.far k hk).1;omega
 ·exact (hB1.chg hC (fun e=>by have:=hfar _ e;omega)).chg hC1 (by omega)
 ·exact (hBg.chg hC (fun e=>by have:=hfar _ e;omega)).set 4 _ (by simp [l5]) (by omega)
 ·exact hb5.trans (hC1.below hb5.size (fun i hi=>by omega))
set_option maxRecDepth 100000 in
set_option maxHeartbeats 8000000 in
theorem mtem_4 (d:Nat) (hof:MtSaid d) (S0:Nat→Prop) (t:T) (w:World) (hS:∀ k,S0 k→k < w.heap.size) (bits hi lo:Nat) (text more:ByteArray) (sub:Int) (ab:Option Addr) (nb cb:Nat) (ak:Option Addr) (nk ck:Nat) (f:F) (hm:∀ W,Below w.heap.size w W→Calls Tryz.prog 24 #[.slice ak nk ck] W (MuOut S0 f W)) (hk:RdKsS S0 w ak 0 f) (hl:f.len=nk) (hd:f.wt≤d) (hd9:d≤40000) (hok:OkF f) (hw:f.wt+2≤t.wt):Calls Tryz.prog 43 #[.agg (valCells 4 bits hi lo text more sub ab nb cb ak nk ck)] w (MtOut S0 t w):=by
 have hnk:nk≤40000:=by have:=len_wtZ f;omega
 have hTB:=two_boxes w (valCells 4 bits hi lo text more sub ab nb cb ak nk ck)
 obtain ⟨wa,hwa⟩:∃ W,W=((w.alloc (.cells (valCells 4 bits hi lo text more sub ab nb cb ak nk ck) 26)).alloc (.cells #[.int .i64 0,.int .u64 0,.slice none 0 0,.string ⟨#[]⟩,.slice none 0 0] 39)):=⟨_,rfl⟩
 have hTB:BoxI wa (w.heap.size+1) z5∧Below w.heap.size w wa:=by rw [hwa];exact hTB
 have hBV:BoxV wa w.heap.size (valCells 4 bits hi lo text more sub ab nb cb ak nk ck):=by rw [hwa];exact (BoxV.new w _ _).keep ((Below.refl _ _).alloc (Nat.le_refl _) _)
 have HTB:=Lib.hid hTB
 have HBV:=Lib.hid hBV
 have HS:=Lib.hid hS
 have HVW:=Lib.hid hw
 have HC:=Lib.hid hm
 have HK:=Lib.hid hk
 have HL:=Lib.hid hl
 have HOF:=Lib.hid hof
 have HOK:=Lib.hid hok
 have HF9:Hid (9+20 * f.wt≤1000001):=Lib.hid (by omega)
 have HRG:=Lib.hid (fun W (h:Below w.heap.size w W)=>regular_calls f W ak nk ck (hk.rd.keep h) hl (by omega))
 clear hw hm hk hl hof hok
 obtain ⟨T,hT⟩:∃ T:Nat,T=sortM 4:=⟨_,rfl⟩
 have HT9:Hid (T≤127):=Lib.hid (by rw [hT];decide)
 have HX:Hid (∀ (a:Option Addr) (n c:Nat) (W:World),Calls Tryz.prog 64 #[.int .i64 4,.slice a n c] W fun e w'=>e=.returned (.agg (itCells 10 T a n c ⟨#[]⟩ none 0 0))∧Below W.heap.size W w'):=Lib.hid fun a n c W=>by rw [hT];exact exted_calls 4 (by omega) a n c W
 have HKS:Hid (∀ W,Chg (fun k=>k=w.heap.size+1) wa W→Hid (Chg (fun k=>k=w.heap.size+1) wa W)∧W.cell? ⟨w.heap.size,0,none⟩=some (.int .i64 4)∧W.cell? ⟨w.heap.size,8,none⟩=some (.slice ak nk ck)):=Lib.hid fun W hW=>⟨Lib.hid hW,hW.cell (p:=⟨w.heap.size,0,none⟩) (fun e=>by have e2:w.heap.size=w.heap.size+1:=e;omega) (HBV.out.2 0 (by omega)).1,hW.cell (p:=⟨w.heap.size,8,none⟩) (fun e=>by have e2:w.heap.size=w.heap.size+1:=e;omega) (HBV.out.2 8 (by omega)).1⟩
 have hz2:w.heap.size+2≤wa.heap.size:=HTB.out.1.1
 clear hS hTB hBV hT
 go_enter Tryz.func43,Tryz.ntmps43
 go_upto_region 9 with fail
 rw [← hwa]
 clear hwa
 have hx0:Chg (fun k=>k=w.heap.size+1) wa wa:=Chg.refl _ _
 obtain ⟨-,f0,f8⟩:=HKS.out wa hx0
 go_wp2_with fail
 refine (HRG.out _ HTB.out.2).mono ?_
 rintro e w1 ⟨⟨b,rfl⟩,hb1⟩
 have hx1:Below wa.heap.size wa w1:=hb1
 have hz1:Chg (fun k=>k=w.heap.size+1) wa w1:=Chg.of_below hx1
 have hs1:=hx1.size
 clear f0 f8 hx0 hb1
 obtain ⟨-,f0,f8⟩:=HKS.out w1 hz1
 cases b
 ·go_upto_region 10 with fail
  go_region_held3 (fun W=>Hid (Chg (fun k=>k=w.heap.size+1) wa W)∧W.cell? ⟨w.heap.size,0,none⟩=some (.int .i64 4)∧W.cell? ⟨w.heap.size,8,none⟩=some (.slice ak nk ck)) (first|((with_reducible refine HKS.out _ ?_);(repeat' (first|with_reducible assumption|with_reducible refine Chg.set2 ?_ (by exact rfl) _ _|with_reducible apply Chg.drew|with_reducible refine Chg.alloc ?_ _|with_reducible exact Chg.refl _ _));done)|fail)
   ((first
    | (go_at_call 24;(with_reducible refine (HC.out _ ?_).mono ?_);(case _=>exact HTB.out.2.trans (Below.mono (show Below wa.heap.size wa _ from (by (repeat' (first|with_reducible assumption|with_reducible refine Below.drew ?_|with_reducible refine Below.alloc ?_ (by first|omega|exact Nat.le_refl _|(simp;omega)) _|with_reducible exact Below.refl _ _)))) HTB.out.2.size));rintro e w10 ⟨a9,n9,c9,g9,rfl,hs,hr9,hl9,hn9,hev,hge,hgw,hb⟩;have hx10:=below_then3' (a:=wa) (by (repeat' (first|with_reducible assumption|with_reducible refine Below.drew ?_|with_reducible refine Below.alloc ?_ (by first|omega|exact Nat.le_refl _|(simp;omega)) _|with_reducible exact Below.refl _ _))) hb;have hs10:=hx10.size;have hz10:Chg (fun k=>k=w.heap.size+1) wa w10:=Chg.of_below hx10;have HG9:Hid (RdIt (fun _=>True) w10 (.mk 6 0 [] emB g9) (itCells 6 0 none 0 0 ⟨#[]⟩ a9 n9 c9)):=Lib.hid (rdit_map (RdIs.imp (fun _ _ _=>trivial) hs) hl9 hn9 hr9);have HOK9:Hid (OkM (.mk 6 0 [] emB g9)):=Lib.hid (ok_map g9 (by omega) hge);have HSZ9:Hid (szM (.mk 6 0 [] emB g9)≤9+20 * f.wt):=Lib.hid (by rw [sz_map];omega);clear hs hr9 hl9 hn9 hev hge hgw hb)
    | (go_at_call 26;(with_reducible refine (lay29_ex (.mk 6 0 [] emB g9) (Nat.le_trans HSZ9.out HF9.out) HOK9.out _ _ (HG9.out.below ?_)).mono ?_);(case _=>(repeat' (first|with_reducible assumption|with_reducible refine Below.drew ?_|with_reducible refine Below.alloc ?_ (by first|omega|exact Nat.le_refl _|(simp;omega)) _|with_reducible exact Below.refl _ _)));rintro e w11 ⟨L,hL,uL,rfl,hsL⟩;have hx11:=below_then3' (a:=wa) (by (repeat' (first|with_reducible assumption|with_reducible refine Below.drew ?_|with_reducible refine Below.alloc ?_ (by first|omega|exact Nat.le_refl _|(simp;omega)) _|with_reducible exact Below.refl _ _))) hsL.bel;have hs11:=hx11.size;have hz11:Chg (fun k=>k=w.heap.size+1) wa w11:=Chg.of_below hx11;have HSuL:Hid (St wa uL L w11):=Lib.hid (St.upZ (by (repeat' (first|with_reducible assumption|with_reducible refine Below.drew ?_|with_reducible refine Below.alloc ?_ (by first|omega|exact Nat.le_refl _|(simp;omega)) _|with_reducible exact Below.refl _ _))) hsL);obtain ⟨N9,hN9⟩:∃ N,N=L.length:=⟨_,rfl⟩;have HLZ:Hid (L.length=N9):=Lib.hid hN9.symm;have HW:Hid (szM (extI T L)+9≤20 * t.wt):=Lib.hid (by have h1:=hL.len;have h2:=HSZ9.out;have h3:=HVW.out;rw [sz_ext];omega);obtain ⟨aZ,cZ,rfl,HRZ,HOZ⟩:=ext_of (S0:=S0) HSuL.out hz2;rw [HLZ.out] at HRZ HOZ ⊢;clear hL hsL hN9)
    | (go_at_call 64;(with_reducible refine (HX.out aZ N9 cZ _).mono ?_);rintro e w6 ⟨rfl,hb6⟩;have hx6:=below_then3' (a:=wa) (by (repeat' (first|with_reducible assumption|with_reducible refine Below.drew ?_|with_reducible refine Below.alloc ?_ (by first|omega|exact Nat.le_refl _|(simp;omega)) _|with_reducible exact Below.refl _ _))) hb6;have hz6:Chg (fun k=>k=w.heap.size+1) wa w6:=Chg.of_below hx6;have HB6:=Lib.hid (HTB.out.2.trans (hx6.mono HTB.out.2.size));have HX6:=Lib.hid (HTB.out.1.keep hx6);have HI6:=Lib.hid (show RdIt (fun k=>S0 k∨w.heap.size+2≤k) w6 _ _ from rdit_ext T (by have:=HT9.out;omega) (HRZ.out.chgZ (below_then3' (a:=w11) (by (repeat' (first|with_reducible assumption|with_reducible refine Below.drew ?_|with_reducible refine Below.alloc ?_ (by first|omega|exact Nat.le_refl _|(simp;omega)) _|with_reducible exact Below.refl _ _))) hb6)) HOZ.out);obtain ⟨p0,p1,p2,p3,p4,r0,r1,r2,r3,r4,r5⟩:=HX6.out.zs;clear hb6)
    | fail))
  all_goals
   go_wp2_with fail
   refine bodyPost_ret (v:=.agg (itCells 10 T aZ N9 cZ ⟨#[]⟩ none 0 0)) (by simp [results,Tryz.results43,go_sem, *]) rfl ?_
   refine mt_fin HS.out HI6.out (ok_ext T _ HT9.out) HW.out HB6.out ?_
   iterate 5 (refine Chg.set2 ?_ (by exact rfl) _ _)
   exact Chg.refl _ _
 ·obtain ⟨gi,hgi⟩:∃ gi,gi=w1.heap.size:=⟨_,rfl⟩
  have hgz:w.heap.size+2≤gi:=by omega
  obtain ⟨w2,hw2⟩:∃ W,W=w1.alloc (.cells #[.int .i64 5,.int .u64 0,.slice none 0 0,.string ⟨#[]⟩,.slice none 0 0] 39):=⟨_,rfl⟩
  have hb12:Below w1.heap.size w1 w2:=by rw [hw2];exact (Below.refl _ _).alloc (Nat.le_refl _) _
  have hb02:Below wa.heap.size wa w2:=hx1.trans (hb12.mono hs1)
  have H0:Hid (LmRel S0 f w gi nk (.slice ak nk ck) (.int .i64 (0:Nat)) w2):=Lib.hid ⟨0,_,.nil,rfl,by omega,rfl,trivial,by simp [F.drop,szMs],OwnI.nil _ _ _,cell_below hb12 f8,HTB.out.1.keep hb02,by rw [hw2,hgi];exact BoxI.new w1 _ _,HTB.out.2.trans (hb02.mono HTB.out.2.size)⟩
  go_upto_region 12 with fail
  rw [← hw2,← hgi]
  have HGI:=Lib.hid hgz
  clear f0 f8 hx1 hz1 hs1 hz2 hw2 hgi hb12 hb02 hgz
  go_wp2_with fail
  go_loopw [4] (fun i wr=>LmRel S0 f w gi nk (.slice ak nk ck) i wr) (fun i _=>nk - (intOf i).toNat)
  case atStart=>exact H0.out
  case round=>
   obtain ⟨j,v,g,rfl,hj,hgl,hge,hgw,hown,hc8,hb1,hbg,hbl⟩:=hrel
   have hz:gi+1≤wr.heap.size:=hbg.1
   have hgi:=HGI.out
   have HKW:=Lib.hid (HK.out.keep (KeepS.below hbl))
   have HBW:=Lib.hid hbl
   have HO:=Lib.hid hown
   have HC8:=Lib.hid hc8
   have HB1:=Lib.hid hb1
   have HBG:=Lib.hid hbg
   have HGE:=Lib.hid hge
   have HGW:=Lib.hid hgw
   have f8:=hc8
   clear hbl hown hb1 hbg hge hgw hc8
   by_cases hlt:j < nk
   ·obtain ⟨⟨nm,t2⟩,hx⟩:=F.get_some f j (by rw [HL.out];exact hlt)
    obtain ⟨htok,hnok⟩:=HOK.out.get hx
    have hwt:=F.wt_get f j nm t2 hx
    have hkz:=HKW.out.atZ hx
    rw [Nat.zero_add] at hkz
    obtain ⟨b,o,k,bits2,hi2,lo2,text2,more2,sub2,ab2,nb2,cb2,ak2,nk2,ck2,rfl,hnm,htr,e0,e1,e2,e3,e4,e5,e6,e7,e8,e9,hsb⟩:=hkz
    have hIT:∀ W,Below wr.heap.size wr W→Calls Tryz.prog 43 #[.agg (valCells k bits2 hi2 lo2 text2 more2 sub2 ab2 nb2 cb2 ak2 nk2 ck2)] W (MtOut S0 t2 W):=fun W hW=>
     HOF.out t2 (by omega) htok S0 W _ (fun i hi=>by have:=HS.out i hi;have:=hW.size;omega) (htr.keep (KeepS.below hW))
    have HIT:=Lib.hid hIT
    have HWT:=Lib.hid hwt
    clear hx hIT hnm hnok hwt htr htok
    have hj0:(0:Int)≤(j:Int):=by omega
    have hj1:(j:Int) < (nk:Int):=by omega
    have hcur:=fun k hk=>(HO.out.far k hk).1
    have HFAR:=Lib.hid hcur
    have hnoO:v.ownBlock≠some gi:=fun e=>by have:=hcur _ e;omega
    have hnoB:v.ownBlock≠some b:=fun e=>by have h1:=hcur _ e;have h2:=HS.out b hsb;omega
    have hnoW:v.ownBlock≠some w.heap.size:=fun e=>by have h1:=hcur _ e;omega
    have q4:wr.cell? ⟨gi,4,none⟩=some v:=(HBG.out.2 4 (by omega)).1
    have z4:wr.frozen? ⟨gi,4,none⟩=false:=(HBG.out.2 4 (by omega)).2
    have HKB:Hid (∀ W,Below wr.heap.size wr W→W.cell? ⟨b,o+j * 10,none⟩=some (.string nm)∧W.cell? ⟨b,o+j * 10+1,none⟩=some (.int .i64 k)∧W.cell? ⟨b,o+j * 10+2,none⟩=some (.int .u64 (bits2:Nat))∧W.cell? ⟨b,o+j * 10+3,none⟩=some (.int .u64 (hi2:Nat))∧W.cell? ⟨b,o+j * 10+4,none⟩=some (.int .u64 (lo2:Nat))∧W.cell? ⟨b,o+j * 10+5,none⟩=some (.string text2)∧W.cell? ⟨b,o+j * 10+6,none⟩=some (.string more2)∧W.cell? ⟨b,o+j * 10+7,none⟩=some (.int .i64 sub2)∧W.cell? ⟨b,o+j * 10+8,none⟩=some (.slice ab2 nb2 cb2)∧W.cell? ⟨b,o+j * 10+9,none⟩=some (.slice ak2 nk2 ck2)∧W.cell? ⟨gi,4,none⟩=some v∧W.cell? ⟨w.heap.size,8,none⟩=some (.slice (some ⟨b,o,none⟩) nk ck)):=Lib.hid fun W hW=>⟨cell_below hW e0,cell_below hW e1,cell_below hW e2,cell_below hW e3,cell_below hW e4,cell_below hW e5,cell_below hW e6,cell_below hW e7,cell_below hW e8,cell_below hW e9,cell_below hW q4,cell_below hW f8⟩
    have HQ:Hid (∀ W,Chg (fun k=>v.ownBlock=some k) wr W→W.cell? ⟨gi,4,none⟩=some v∧W.frozen? ⟨gi,4,none⟩=false):=Lib.hid fun W hW=>⟨hW.cell hnoO q4,by rw [frozenZ hW (p:=⟨gi,4,none⟩) hnoO HBG.out.1];exact z4⟩
    have HFS:Hid (∀ k,(S0 k∨wr.heap.size≤k)→(S0 k∨gi+1≤k)∧v.ownBlock≠some k):=Lib.hid fun i hi=>by
     have h9:=HO.out.far i
     rcases hi with hi|hi
     ·have h8:=HS.out i hi
      exact ⟨.inl hi,fun e=>by have:=h9 e;omega⟩
     ·exact ⟨.inr (by omega),fun e=>by have:=h9 e;omega⟩
    have hx0:Below wr.heap.size wr wr:=Below.refl _ _
    clear hcur
    go_upto_region 15 with fail
    go_region_law ((first
     | (go_simp;go_at_call 43;(with_reducible refine (HIT.out _ ?_).mono ?_);(case _=>(repeat' (first|with_reducible assumption|with_reducible refine Below.drew ?_|with_reducible refine Below.alloc ?_ (by first|omega|exact Nat.le_refl _|(simp;done)|(simp;omega)) _|with_reducible exact Below.refl _ _)));rintro e w10 ⟨ki,ni,ab3,nb3,cb3,tx3,ak3,nk3,ck3,x,rfl,hr2,he2,hw2,hb10⟩;have HXI:=Lib.hid (rdit_from (a:=wr) hr2 (by (repeat' (first|with_reducible assumption|with_reducible refine Below.drew ?_|with_reducible refine Below.alloc ?_ (by first|omega|exact Nat.le_refl _|(simp;done)|(simp;omega)) _|with_reducible exact Below.refl _ _))));have hx10:=below_then3' (a:=wr) (by (repeat' (first|with_reducible assumption|with_reducible refine Below.drew ?_|with_reducible refine Below.alloc ?_ (by first|omega|exact Nat.le_refl _|(simp;done)|(simp;omega)) _|with_reducible exact Below.refl _ _))) hb10;have hs10:=hx10.size;obtain ⟨x0,x1,x2,x3,x4,x5,x6,x7,x8,x9,x10,x11⟩:=HKB.out w10 hx10;(have A10:∀ q,(w10.alloc q).cell? ⟨gi,4,none⟩=some v:=fun q=>cell_below ((Below.refl _ _).alloc (Nat.le_refl _) q) x10);have HE2:=Lib.hid he2;have HW2:=Lib.hid hw2;clear hr2 he2 hw2 hb10)
     | (refine step_appI (v:=v) (f:=g) (B:=gi+1) (L:=fun k=>S0 k∨gi+1≤k) (sv:=.slice (some ⟨w10.heap.size,0,none⟩) 1 1) (g:=.cons x .nil) (S1:=fun k=>S0 k∨wr.heap.size≤k) (by rfl) _ _ (by rfl) (by rfl) (HO.out.keep ?_) (by rfl) (SrcI.one (HXI.out.below ?_) (new_cells _ _ _ _ rfl)) HFS.out (by simp [IL.len];omega) (by first|omega|(simp;omega)) ?_;(case _=>(repeat' (first|with_reducible assumption|with_reducible refine Below.drew ?_|with_reducible refine Below.alloc ?_ (by first|omega|exact Nat.le_refl _|(simp;done)|(simp;omega)) _|with_reducible exact Below.refl _ _)));(case _=>(repeat' (first|with_reducible assumption|with_reducible refine Below.drew ?_|with_reducible refine Below.alloc ?_ (by first|omega|exact Nat.le_refl _|(simp;done)|(simp;omega)) _|with_reducible exact Below.refl _ _)));intro v5 w5 ho5 ha5;(have HC5o:Hid (Chg (fun k=>v.ownBlock=some k) wr w5):=(Chg.of_below (a:=wr) (by (repeat' (first|with_reducible assumption|with_reducible refine Below.drew ?_|with_reducible refine Below.alloc ?_ (by first|omega|exact Nat.le_refl _|(simp;done)|(simp;omega)) _|with_reducible exact Below.refl _ _)))).trans ha5.chg (fun i _ e=>e));obtain ⟨s4,s5⟩:=HQ.out _ HC5o.out;obtain ⟨a5,c5,hv5,-⟩:=OwnI.reads ho5 (fun k hk=>.inr hk);subst hv5;obtain ⟨N5,hN5⟩:∃ N,N=(g.append (.cons x .nil)).len:=⟨_,rfl⟩;rw [← hN5] at ho5 ha5 ⊢;(have HN5:=Lib.hid hN5);(have HO5:=Lib.hid ho5);clear ho5 ha5 hN5)
     | fail))
    all_goals
     have HFIN:=Lib.hid (lm_next (nk:=nk) (f:=f) HGI.out hlt HO5.out HC5o.out HFAR.out HC8.out HB1.out HBG.out HBW.out hgl HGE.out HGW.out HWT.out HE2.out HW2.out HS.out)
     go_wp2_with fail
     exact ⟨HFIN.out,by simp [intOf];omega⟩
   ·obtain ⟨aR,cR,rfl,hrd,hro,hle⟩:=OwnI.reads HO.out (fun k hk=>.inr hk)
    have hjn:decide ((j:Int) < (nk:Int))=false:=by simp;omega
    have HIT:Hid (RdIt (fun k=>S0 k∨w.heap.size+2≤k) wr (listI g) (itCells 5 0 none 0 0 ⟨#[]⟩ aR g.len cR)):=Lib.hid (rdit_list (RdIs.imp (fun i _ h=>h.imp id (fun h=>by omega)) hrd) rfl hle hro)
    have HE:Hid (OkM (listI g)):=Lib.hid (ok_list g HGE.out)
    have HW:Hid (szM (listI g)+9≤20 * t.wt):=Lib.hid (by rw [sz_list];have:=HGW.out;have:=HVW.out;omega)
    obtain ⟨N,hN⟩:∃ N,N=g.len:=⟨_,rfl⟩
    rw [← hN] at HIT HBG
    obtain ⟨p0,p1,p2,p3,p4,r0,r1,r2,r3,r4,r5⟩:=HB1.out.zs
    have q0:wr.cell? ⟨gi,0,none⟩=some (.int .i64 5):=(HBG.out.2 0 (by omega)).1
    have q1:wr.cell? ⟨gi,1,none⟩=some (.int .u64 0):=(HBG.out.2 1 (by omega)).1
    have q2:wr.cell? ⟨gi,2,none⟩=some (.slice none 0 0):=(HBG.out.2 2 (by omega)).1
    have q3:wr.cell? ⟨gi,3,none⟩=some (.string ⟨#[]⟩):=(HBG.out.2 3 (by omega)).1
    have q4:wr.cell? ⟨gi,4,none⟩=some (.slice aR N cR):=(HBG.out.2 4 (by omega)).1
    clear hgl hN hrd hro hle
    go_wp2_with fail
    refine bodyPost_ret (v:=.agg (itCells 5 0 none 0 0 ⟨#[]⟩ aR N cR)) (by simp [results,Tryz.results43,go_sem, *]) rfl ?_
    refine mt_fin HS.out HIT.out HE.out HW.out HBW.out ?_
    iterate 5 (refine Chg.set2 ?_ (by exact rfl) _ _)
    exact Chg.refl _ _
end Go.Proofs.YtmooaepbdmengaaGreatDoor
