/- Parts of the proof of SniffWritten: ItL, ItM. -/
import Derived.Test.YtmooaepbdmengaaGreatDoorZ13
import Derived.Test.YtmooaepbdmengaaGreatDoorZ14
import Derived.Test.YtmooaepbdmengaaGreatDoorZ05
namespace Go.Proofs.YtmooaepbdmengaaGreatDoor
open Go.RowKit
set_option linter.unusedVariables false
set_option linter.unusedSimpArgs false
theorem knownK_cases {k:Int} (h:knownK k=true):k=1∨k=2∨k=3∨k=4∨k=5∨k=6∨k=7∨k=8∨k=9∨k=10∨k=11∨k=12∨k=13∨k=14∨k=15∨k=16∨k=17∨k=18∨k=19∨k=127∨k=255:=by
 simp only [knownK,Bool.or_eq_true,Bool.and_eq_true,decide_eq_true_eq,beq_iff_eq] at h
 omega
theorem fieldsOf_bool {bits hi lo:Nat} {text more:ByteArray} {sub:Int} {nb nk:Nat} (h:fieldsOf 8 bits hi lo text more sub nb nk=true):bits < 2:=by
 simp only [fieldsOf,Bool.and_eq_true] at h
 have:=h.1.1.1.1.1.1.1.1
 simp [okK] at this
 omega
theorem fieldsOf_sub {bits hi lo:Nat} {text more:ByteArray} {sub:Int} {nb nk:Nat} (h:fieldsOf 5 bits hi lo text more sub nb nk=true):0≤sub∧sub≤255:=by
 simp only [fieldsOf,Bool.and_eq_true] at h
 have:=h.1.1.1.1.1.1.1.1
 simp [okK] at this
 omega
set_option maxHeartbeats 1000000 in
theorem item_step (d:Nat) (hd:d≤900000) (h:ItSaid d):ItSaid (d+1):=by
 intro t ht hok S0 w c hS hr
 cases t with
 | mk k bits hi lo text more sub bs f=>
  obtain ⟨ab,nb,cb,ak,nk,ck,rfl,ho,hb,hl,⟨hn9,hra,hrb⟩,hk⟩:=hr
  obtain ⟨hkk,hf,ht1,ht2,hF⟩:=hok
  obtain ⟨-,hb1,hb2,hb3,hs1,hs2,-⟩:=ho
  have hwt:(T.mk k bits hi lo text more sub bs f).wt=2+text.size+more.size+bs.length+f.wt:=rfl
  have a1:=whole_of_ok ht1
  have a2:=whole_of_ok ht2
  have hfd:f.wt≤d:=by omega
  have hm:∀ W,Below w.heap.size w W→Calls Tryz.prog 20 #[.slice ak nk ck] W (MapOut S0 f W):=fun W hW=>
   mapped_calls d h f S0 W ak nk ck (fun i hi=>Nat.lt_of_lt_of_le (hS i hi) hW.size) (hk.keep (KeepS.below hW)) hl hfd hd hF
  have h2:2≤(T.mk k bits hi lo text more sub bs f).wt:=by omega
  have hwf:f.wt+2≤(T.mk k bits hi lo text more sub bs f).wt:=by omega
  have hwb:bs.length+2≤(T.mk k bits hi lo text more sub bs f).wt:=by omega
  have hwx:text.size+2≤(T.mk k bits hi lo text more sub bs f).wt:=by omega
  rcases knownK_cases hkk with rfl|rfl|rfl|rfl|rfl|rfl|rfl|rfl|rfl|rfl|rfl|rfl|rfl|rfl|rfl|rfl|rfl|rfl|rfl|rfl|rfl
  ·exact item_1 S0 _ w bits hi lo text more sub ab nb cb ak nk ck hb1
  ·exact item_2 S0 _ w hS bits hi lo text more sub ab nb cb ak nk ck hs1 hwx a1
  ·exact item_3 S0 _ w hS bits hi lo text more sub ab nb cb ak nk ck f hm hwf
  ·exact item_4 d h S0 _ w hS bits hi lo text more sub ab nb cb ak nk ck f hm hk hl hfd hd hF hwf
  ·obtain ⟨q1,q2⟩:=fieldsOf_sub hf
   by_cases e:sub=0
   ·subst e
    exact item_5 S0 _ w hS bits hi lo text more 0 ab nb cb ak nk ck bs hb hrb hwb
   ·exact item_5b S0 _ w hS bits hi lo text more sub ab nb cb ak nk ck sub.toNat (by omega) (by omega) (by omega) bs hb hrb hwb
  ·exact item_6 S0 _ w bits hi lo text more sub ab nb cb ak nk ck
  ·exact item_7 S0 _ w hS bits hi lo text more sub ab nb cb ak nk ck bs hb hrb hwb
  ·exact item_8 S0 _ w bits hi lo text more sub ab nb cb ak nk ck (fieldsOf_bool hf)
  ·exact item_9 S0 _ w hS bits hi lo text more sub ab nb cb ak nk ck h2
  ·exact item_10 S0 _ w bits hi lo text more sub ab nb cb ak nk ck
  ·exact item_11 S0 _ w hS bits hi lo text more sub ab nb cb ak nk ck hs1 hs2 (by omega) a1 a2
  ·exact item_12 S0 _ w hS bits hi lo text more sub ab nb cb ak nk ck bs hb hrb hs1 (by omega) a1
  ·exact item_13 S0 _ w hS bits hi lo text more sub ab nb cb ak nk ck hs1 hwx a1
  ·exact item_14 S0 _ w hS bits hi lo text more sub ab nb cb ak nk ck hs1 hwx a1
  ·exact item_15 S0 _ w hS bits hi lo text more sub ab nb cb ak nk ck f hm hs1 (by omega) a1
  ·exact item_16 S0 _ w hS bits hi lo text more sub ab nb cb ak nk ck h2
  ·exact item_17 S0 _ w hS bits hi lo text more sub ab nb cb ak nk ck h2 hb1
  ·exact item_18 S0 _ w hS bits hi lo text more sub ab nb cb ak nk ck h2
  ·exact item_19 S0 _ w hS bits hi lo text more sub ab nb cb ak nk ck h2 hb2 hb3
  ·exact item_127 S0 _ w hS bits hi lo text more sub ab nb cb ak nk ck h2
  ·exact item_255 S0 _ w hS bits hi lo text more sub ab nb cb ak nk ck h2
theorem item_all:∀ d,d≤900000→ItSaid d
 | 0,_=>fun t ht=>by have:2≤t.wt:=(by cases t;simp only [T.wt];omega);omega
 | d+1,hd=>item_step d (by omega) (item_all d (by omega))
def DocIt (f:F) (w:World) (e:Ending) (w':World):Prop:=
 ∃ (a:Option Addr) (n c:Nat) (g:IL),e=.returned (.tuple #[.agg (itCells 6 0 none 0 0 ⟨#[]⟩ a n c),.agg #[.int .i64 0,.int .i64 0,.slice none 0 0]])∧RdIt (fun _=>True) w' (.mk 6 0 [] emB g) (itCells 6 0 none 0 0 ⟨#[]⟩ a n c)∧errI (.mk 6 0 [] emB g)=0∧hdT g∧g.zt≤18 * f.wt∧Below w.heap.size w w'
theorem three_boxes (w:World) (cs:Array Value):let wa:=((w.alloc (.cells cs 26)).alloc (.cells z5 39)).alloc (.cells #[.int .i64 0,.int .i64 0,.slice none 0 0] 32)
  BoxI wa (w.heap.size+1) z5∧FBox wa (w.heap.size+2)∧Below w.heap.size w wa:=by
 intro wa
 have h1:=two_boxes w cs
 refine ⟨h1.1.keep ((Below.refl _ _).alloc (Nat.le_refl _) _),?_,h1.2.alloc h1.2.size _⟩
 refine ⟨?_,?_,?_,?_,?_,?_,?_⟩<;>simp [wa,go_sem]
set_option maxRecDepth 100000 in
set_option maxHeartbeats 4000000 in
theorem item28_calls (w:World) (bits hi lo:Nat) (text more:ByteArray) (sub:Int) (bs:List UInt8) (f:F) (c:Array Value) (h:RdT w (.mk 3 bits hi lo text more sub bs f) c) (hw:(T.mk 3 bits hi lo text more sub bs f).wt≤90000)
  (hc:chk (.mk 3 bits hi lo text more sub bs f)=none):Calls Tryz.prog 8 #[.agg c] w (DocIt f w):=by
 have CK:=Lib.hid (fun W (hW:Below w.heap.size w W)=>rcheck2_calls _ W c (h.keep hW) (by omega))
 have hok:=OkT.of _ _ _ hc
 have hs:=RdTS.of h
 obtain ⟨ab,nb,cb,ak,nk,ck,rfl,ho,hb,hl,⟨hn9,hra,hrb⟩,hk⟩:=hs
 have hwf:f.wt≤90000:=by simp only [T.wt] at hw;omega
 have HM:=Lib.hid (fun W (hW:Below w.heap.size w W)=>mapped_calls f.wt (item_all f.wt (by omega)) f (fun k=>k < w.heap.size) W ak nk ck (fun i hi=>Nat.lt_of_lt_of_le hi hW.size) (hk.keep (KeepS.below hW)) hl (Nat.le_refl _) (by omega) hok.1.2.2.2.2)
 have HCN:=Lib.hid hc
 obtain ⟨wa,hwa⟩:∃ W,W=(((w.alloc (.cells (valCells 3 bits hi lo text more sub ab nb cb ak nk ck) 26)).alloc (.cells #[.int .i64 0,.int .u64 0,.slice none 0 0,.string ⟨#[]⟩,.slice none 0 0] 39)).alloc (.cells #[.int .i64 0,.int .i64 0,.slice none 0 0] 32)):=⟨_,rfl⟩
 have HB3:Hid (BoxI wa (w.heap.size+1) z5∧FBox wa (w.heap.size+2)∧Below w.heap.size w wa):=Lib.hid (by rw [hwa];exact three_boxes w _)
 have HBV:Hid (BoxV wa w.heap.size (valCells 3 bits hi lo text more sub ab nb cb ak nk ck)):=Lib.hid (by rw [hwa];exact (BoxV.new w _ _).keep (((Below.refl _ _).alloc (Nat.le_refl _) _).alloc (by simp) _))
 clear h hw hc hok ho hb hl hn9 hra hrb hk hwf
 obtain ⟨f0,f1,f2,f3,f4,f5,f6,f7,f8,l0⟩:=HBV.out.nine
 go_enter Tryz.func8,Tryz.ntmps8
 go_upto_region 1 with fail
 rw [← hwa]
 clear hwa
 go_wp2_with fail
 refine (CK.out _ HB3.out.2.2).mono ?_
 rintro e w1 ⟨aP,nP,cP,rfl,hnP,hmP,hrP,hcP,hb1⟩
 have hE:errN (chk (.mk 3 bits hi lo text more sub bs f))=0:=by rw [HCN.out];rfl
 rw [hE]
 have HBW1:=Lib.hid (HB3.out.2.2.trans (hb1.mono HB3.out.2.2.size))
 have HBV1:=Lib.hid (HBV.out.keep hb1)
 have HX1:=Lib.hid (HB3.out.1.keep hb1)
 have HF1:=Lib.hid (HB3.out.2.1.keep hb1)
 clear hnP hmP hrP hcP hb1 hE f0 f1 f2 f3 f4 f5 f6 f7 f8 l0
 obtain ⟨f0,f1,f2,f3,f4,f5,f6,f7,f8,l0⟩:=HBV1.out.nine
 go_wp2_with fail
 refine (HM.out _ HBW1.out).mono ?_
 rintro e w2 ⟨a9,n9,c9,g9,rfl,hs,hr9,hl9,hn9,hev,hge,hgw,hb2⟩
 have HBW2:=Lib.hid (HBW1.out.trans (hb2.mono HBW1.out.size))
 have HX2:=Lib.hid (HX1.out.keep hb2)
 have HF2:=Lib.hid (HF1.out.keep hb2)
 have HIT:Hid (RdIt (fun k=>¬ (k=w.heap.size+1∨k=w.heap.size+2)) w2 (.mk 6 0 [] emB g9) (itCells 6 0 none 0 0 ⟨#[]⟩ a9 n9 c9)):=Lib.hid (rdit_map (RdIs.imp (fun i _ h=>by have hz:=HF1.out.2.2.2.2.2.2;rcases h with h|h<;>omega) hs) hl9 hn9 hr9)
 have HE:Hid (errI (I.mk 6 0 [] emB g9)=0):=Lib.hid (err_map g9 (by omega) hge)
 have HH:=Lib.hid (show hdT g9∧g9.zt≤18 * f.wt from ⟨hev.2,hgw⟩)
 clear hs hr9 hl9 hn9 hev hge hgw hb2 f0 f1 f2 f3 f4 f5 f6 f7 f8 l0
 obtain ⟨p0,p1,p2,p3,p4,r0,r1,r2,r3,r4,r5⟩:=HX2.out.zs
 obtain ⟨q0,q1,q2,t0,t1,t2,t3⟩:=HF2.out
 have HFN:Hid (∀ W',Chg (fun k=>k=w.heap.size+1∨k=w.heap.size+2) w2 W'→DocIt f w (.returned (.tuple #[.agg (itCells 6 0 none 0 0 ⟨#[]⟩ a9 n9 c9),.agg #[.int .i64 0,.int .i64 0,.slice none 0 0]])) W'):=Lib.hid fun W' hC=>
  ⟨a9,n9,c9,g9,rfl,(HIT.out.keep (KeepS.chg hC (fun k hk=>hk))).imp (fun _ _ _=>trivial),HE.out,HH.out.1,HH.out.2,HBW2.out.trans (hC.below HBW2.out.size (fun i hi=>by omega))⟩
 go_wp2_with fail
 refine bodyPost_ret (v:=.tuple #[.agg (itCells 6 0 none 0 0 ⟨#[]⟩ a9 n9 c9),.agg #[.int .i64 0,.int .i64 0,.slice none 0 0]]) (by simp [results,Tryz.results8,go_sem, *]) rfl ?_
 refine HFN.out _ ?_
 (repeat' (first|with_reducible exact Chg.refl _ _|with_reducible refine Chg.setCell ?_ (fun h=>?_) _))
 all_goals (dsimp only;omega)
end Go.Proofs.YtmooaepbdmengaaGreatDoor
