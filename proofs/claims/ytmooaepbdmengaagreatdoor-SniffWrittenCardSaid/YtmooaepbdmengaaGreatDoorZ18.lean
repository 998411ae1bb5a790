/- Parts of the proof of SniffWritten: MtB0, MtC. -/
import Derived.Test.YtmooaepbdmengaaGreatDoorZ11
import Derived.Test.YtmooaepbdmengaaGreatDoorZ16
import Derived.Test.YtmooaepbdmengaaGreatDoorZ12
import Derived.Test.YtmooaepbdmengaaGreatDoorZ02
import Derived.Deep.RegionLaw
namespace Go.Proofs.YtmooaepbdmengaaGreatDoor
open Go.RowKit
set_option linter.unusedVariables false
set_option linter.unusedSimpArgs false
def MtOut (S0:Nat→Prop) (t:T) (w:World) (e:Ending) (w':World):Prop:=
 ∃ (k:Int) (n:Nat) (ab:Option Addr) (nb cb:Nat) (text:ByteArray) (ak:Option Addr) (nk ck:Nat) (x:I),e=.returned (.agg (itCells k n ab nb cb text ak nk ck))∧RdIt (fun k=>S0 k∨w.heap.size≤k) w' x (itCells k n ab nb cb text ak nk ck)∧OkM x∧szM x+9≤20 * t.wt∧Below w.heap.size w w'
def MtSaid (d:Nat):Prop:=∀ t:T,t.wt≤d→OkT t→∀ (S0:Nat→Prop) (w:World) (c:Array Value),(∀ k,S0 k→k < w.heap.size)→RdTS S0 w t c→Calls Tryz.prog 43 #[.agg c] w (MtOut S0 t w)
def MuOut (S0:Nat→Prop) (f:F) (w:World) (e:Ending) (w':World):Prop:=
 ∃ (a:Option Addr) (n c:Nat) (g:IL),e=.returned (.agg (itCells 6 0 none 0 0 ⟨#[]⟩ a n c))∧RdIs (fun k=>S0 k∨w.heap.size≤k) w' a 0 g∧Roomy a n c∧g.len=n∧n≤9223372036854775807∧(n % 2=0∧hdT g)∧OkMs g∧szMs g≤20 * f.wt∧Below w.heap.size w w'
def MuRel (S0:Nat→Prop) (f:F) (w:World) (nk:Nat) (i:Value) (wr:World):Prop:=
 ∃ (j:Nat) (v:Value) (g:IL),i=.int .i64 (j:Nat)∧j≤nk∧(g.len=2 * j∧hdT g)∧OkMs g∧szMs g+20 * (f.drop j).wt≤20 * f.wt∧OwnI wr (w.heap.size+2) (fun k=>S0 k∨w.heap.size+2≤k) v g∧BoxI wr w.heap.size z5∧BoxI wr (w.heap.size+1) (m5 v)∧Below w.heap.size w wr
theorem mu_next {S0:Nat→Prop} {f:F} {w wr w5:World} {nk j:Nat} {v:Value} {g:IL} {nm:ByteArray} {t:T} {x:I} {a5:Option Addr} {N5 c5:Nat} (hlt:j < nk)
  (hO:OwnI w5 (w.heap.size+2) (fun k=>S0 k∨w.heap.size+2≤k) (.slice a5 N5 c5) (g.append (.cons (txtI nm) (.cons x .nil)))) (hC:Chg (fun k=>v.ownBlock=some k) wr w5) (hfar:∀ k,v.ownBlock=some k→w.heap.size+2≤k)
  (hB0:BoxI wr w.heap.size z5) (hB1:BoxI wr (w.heap.size+1) (m5 v)) (hbl:Below w.heap.size w wr) (hgl:g.len=2 * j∧hdT g) (hge:OkMs g) (hgw:szMs g+20 * (f.drop j).wt≤20 * f.wt)
  (hwt:nm.size+t.wt+(f.drop (j+1)).wt≤(f.drop j).wt∧(f.drop j).wt≤f.wt) (hnok:textOk true (sl nm)=true) (he:OkM x) (hw2:szM x+9≤20 * t.wt) (hS:∀ k,S0 k→k < w.heap.size) :
  MuRel S0 f w nk (.int .i64 ((j:Int)+1)) (w5.setCell ⟨w.heap.size+1,4,none⟩ (.slice a5 N5 c5)):=by
 have hC1:=Chg.set1 w5 (w.heap.size+1) 4 (.slice a5 N5 c5)
 have hb5:Below w.heap.size w w5:=hbl.trans (hC.below hbl.size (fun i hi=>by have:=hfar i hi;omega))
 have hx0:=hB0.chg hC (fun e=>by have:=hfar _ e;omega)
 have hx1:=hB1.chg hC (fun e=>by have:=hfar _ e;omega)
 refine ⟨j+1,_,_,rfl,by omega,?_,okMs_app _ _ hge (okMs_two (ok_txt _ (whole_of_ok hnok)) he),?_,ownI_chgZ hO hC1 ?_ ?_,?_,?_,?_⟩
 ·exact ⟨by rw [IL.append_len];simp only [IL.len];omega,hdT_app _ _ _ hgl.2⟩
 ·rw [szMs_app];simp only [szMs,sz_txt];omega
 ·intro k hk e
  rcases hk with hk|hk
  ·have:=hS k hk;omega
  ·omega
 ·intro k hk e
  have:=(hO.far k hk).1;omega
 ·exact hx0.chg hC1 (by omega)
 ·exact hx1.set 4 _ (by simp [m5]) (by omega)
 ·exact hb5.trans (hC1.below hb5.size (fun i hi=>by omega))
theorem mt_num {S0:Nat→Prop} {t:T} {w w':World} (k:Int) (n:Nat) (hk:k=1∨(k=2∧n < 9223372036854775808)∨k=9∨(k=8∧(n=20∨n=21∨n=22))) (hn:n < okSize) (hb:Below w.heap.size w w'):MtOut S0 t w (.returned (.agg (itCells k n none 0 0 ⟨#[]⟩ none 0 0))) w':=by
 have h2:2≤t.wt:=by cases t;simp only [T.wt];omega
 exact ⟨_,_,_,_,_,_,_,_,_,_,rfl,rdit_num k n (by omega) hn,ok_nu _ _ hk,by rw [sz_nu];omega,hb⟩
theorem mt_fin {S0:Nat→Prop} {t:T} {w w1 W':World} {k:Int} {n:Nat} {ab:Option Addr} {nb cb:Nat} {text:ByteArray} {ak:Option Addr} {nk ck:Nat} {x:I} (hS:∀ k,S0 k→k < w.heap.size) (hr:RdIt (fun k=>S0 k∨w.heap.size+2≤k) w1 x (itCells k n ab nb cb text ak nk ck)) (he:OkM x) (hw:szM x+9≤20 * t.wt)
  (hb:Below w.heap.size w w1) (hC:Chg (fun k=>k=w.heap.size+1) w1 W'):MtOut S0 t w (.returned (.agg (itCells k n ab nb cb text ak nk ck))) W':=by
 refine ⟨_,_,_,_,_,_,_,_,_,x,rfl,?_,he,hw,hb.trans (hC.below hb.size (fun i hi=>by omega))⟩
 exact (hr.keep (KeepS.chg hC (fun i hi e=>by rcases hi with hi|hi;have:=hS i hi;omega;omega))).imp (fun i _ hi=>hi.imp id (fun h=>by omega))
theorem rdit_ext {S:Nat→Prop} {w:World} {ab:Option Addr} {nb cb:Nat} {bs:List UInt8} (T:Nat) (hT:T≤1000) (h:RdBS S w ab nb bs) (hr:Roomy ab nb cb):RdIt S w (extI T bs) (itCells 10 T ab nb cb ⟨#[]⟩ none 0 0):=
 ⟨ab,nb,cb,none,0,0,rfl,⟨⟨by omega,by omega⟩,by unfold okSize;omega,by decide⟩,h,rfl,⟨by omega,⟨fun _=>rfl,Nat.le_refl _⟩,hr⟩,trivial⟩
theorem RdBS.chgZ {S:Nat→Prop} {w w':World} {ab:Option Addr} {nb:Nat} {bs:List UInt8} (h:RdBS S w ab nb bs) (hb:Below w.heap.size w w'):RdBS S w' ab nb bs:=h.keep (KeepS.below hb)
theorem RdBS.impZ {S S':Nat→Prop} {w:World} {ab:Option Addr} {nb:Nat} {bs:List UInt8} (h:RdBS S w ab nb bs) (hS:∀ k,S k→S' k):RdBS S' w ab nb bs:=⟨h.1,fun hn p hp=>hS _ (h.2 hn p hp)⟩
theorem w64_ge (x:Int):-9223372036854775808≤wrap64 x:=by unfold wrap64;omega
def IntM (w:World) (e:Ending) (w':World):Prop:=∃ (k:Int) (n:Nat),e=.returned (.agg (itCells k n none 0 0 ⟨#[]⟩ none 0 0))∧(k=1∨(k=2∧n < 9223372036854775808))∧n < 18446744073709551616∧Below w.heap.size w w'
set_option maxRecDepth 100000 in
set_option maxHeartbeats 4000000 in
theorem integer29_calls (v:Int) (hv:-9223372036854775808≤v) (w:World):Calls Tryz.prog 63 #[.int .i64 v] w fun e w'=>IntM w e w':=by
 obtain ⟨n,hn,hn1⟩:=wrapN v
 by_cases h:v < 0
 ·obtain ⟨m,hm⟩:∃ m:Nat,(m:Int)=-(v+1):=⟨(-(v+1)).toNat,by omega⟩
  have hm1:m < 9223372036854775808:=by omega
  have e1:wrap64 (v+1)=v+1:=by unfold wrap64;omega
  have e2:wrap64 (-(v+1))=(m:Int):=by unfold wrap64;omega
  have e3:IntKind.u64.wrap (m:Int)=(m:Int):=by rw [IntKind.wrap_u64];omega
  have HM:=Lib.hid hm1
  clear hm hm1 hn hn1 hv
  go_enter Tryz.func63,Tryz.ntmps63
  go_wp2_with fail
  refine bodyPost_ret (v:=.agg (itCells 2 m none 0 0 ⟨#[]⟩ none 0 0)) (by simp [results,Tryz.results63,go_sem, *]) rfl ?_
  exact ⟨2,m,rfl,.inr ⟨rfl,HM.out⟩,by have:=HM.out;omega,(Below.refl _ _).alloc (Nat.le_refl _) _⟩
 ·clear hv
  go_enter Tryz.func63,Tryz.ntmps63
  go_wp2_with fail
  refine bodyPost_ret (v:=.agg (itCells 1 n none 0 0 ⟨#[]⟩ none 0 0)) (by simp [results,Tryz.results63,go_sem, *]) rfl ?_
  exact ⟨1,n,rfl,.inl rfl,hn1,(Below.refl _ _).alloc (Nat.le_refl _) _⟩
set_option maxRecDepth 100000 in
set_option maxHeartbeats 4000000 in
theorem mtem_1 (S0:Nat→Prop) (t:T) (w:World) (bits hi lo:Nat) (text more:ByteArray) (sub:Int) (ab:Option Addr) (nb cb:Nat) (ak:Option Addr) (nk ck:Nat) (hb:bits < okSize):Calls Tryz.prog 43 #[.agg (valCells 1 bits hi lo text more sub ab nb cb ak nk ck)] w (MtOut S0 t w):=by
 go_enter Tryz.func43,Tryz.ntmps43
 go_wp2_with fail
 refine bodyPost_ret (v:=.agg (itCells 9 bits none 0 0 ⟨#[]⟩ none 0 0)) (by simp [results,Tryz.results43,go_sem, *]) rfl ?_
 exact mt_num _ _ (by first|(simp;done)|(simp;omega)) (by first|assumption|decide|omega) (((Below.refl _ _).alloc (Nat.le_refl _) _).alloc (by simp) _)
set_option maxRecDepth 100000 in
set_option maxHeartbeats 4000000 in
theorem mtem_10 (S0:Nat→Prop) (t:T) (w:World) (bits hi lo:Nat) (text more:ByteArray) (sub:Int) (ab:Option Addr) (nb cb:Nat) (ak:Option Addr) (nk ck:Nat):Calls Tryz.prog 43 #[.agg (valCells 10 bits hi lo text more sub ab nb cb ak nk ck)] w (MtOut S0 t w):=by
 go_enter Tryz.func43,Tryz.ntmps43
 go_wp2_with fail
 refine bodyPost_ret (v:=.agg (itCells 8 22 none 0 0 ⟨#[]⟩ none 0 0)) (by simp [results,Tryz.results43,go_sem, *]) rfl ?_
 exact mt_num _ _ (by first|(simp;done)|(simp;omega)) (by first|assumption|decide|omega) (((Below.refl _ _).alloc (Nat.le_refl _) _).alloc (by simp) _)
set_option maxRecDepth 100000 in
set_option maxHeartbeats 4000000 in
theorem mtem_8 (S0:Nat→Prop) (t:T) (w:World) (bits hi lo:Nat) (text more:ByteArray) (sub:Int) (ab:Option Addr) (nb cb:Nat) (ak:Option Addr) (nk ck:Nat) (hb:bits < 2):Calls Tryz.prog 43 #[.agg (valCells 8 bits hi lo text more sub ab nb cb ak nk ck)] w (MtOut S0 t w):=by
 have e1:IntKind.u64.wrap (20+(bits:Int))=((20+bits:Nat):Int):=by rw [IntKind.wrap_u64];omega
 obtain ⟨B,hB⟩:∃ B,B=20+bits:=⟨_,rfl⟩
 have hB1:B=20∨B=21∨B=22:=by omega
 have hB3:B < okSize:=by unfold okSize;omega
 rw [← hB] at e1
 clear hB
 go_enter Tryz.func43,Tryz.ntmps43
 go_wp2_with fail
 refine bodyPost_ret (v:=.agg (itCells 8 B none 0 0 ⟨#[]⟩ none 0 0)) (by simp [results,Tryz.results43,go_sem, *]) rfl ?_
 exact mt_num _ _ (by first|(simp;done)|(simp;omega)) (by first|assumption|decide|omega) (((Below.refl _ _).alloc (Nat.le_refl _) _).alloc (by simp) _)
set_option maxRecDepth 100000 in
set_option maxHeartbeats 4000000 in
theorem mtem_2 (S0:Nat→Prop) (t:T) (w:World) (hS:∀ k,S0 k→k < w.heap.size) (bits hi lo:Nat) (text more:ByteArray) (sub:Int) (ab:Option Addr) (nb cb:Nat) (ak:Option Addr) (nk ck:Nat) (hn:text.size≤9223372036854775807) (hw:text.size+2≤t.wt) (ht:(wholeTo (sl text) == text.size)=true):Calls Tryz.prog 43 #[.agg (valCells 2 bits hi lo text more sub ab nb cb ak nk ck)] w (MtOut S0 t w):=by
 have HTB:=Lib.hid (two_boxes w (valCells 2 bits hi lo text more sub ab nb cb ak nk ck))
 have HS:=Lib.hid hS
 have HN:=Lib.hid hn
 have HT:=Lib.hid ht
 have HV:=Lib.hid hw
 clear hn ht hw
 have HC:=Lib.hid (fun W=>text29_calls text W)
 clear hS
 go_enter Tryz.func43,Tryz.ntmps43
 go_wp2_with (go_at_call 42;(with_reducible refine (HC.out _).mono ?_);rintro e w1 ⟨rfl,hb⟩;have HB:=Lib.hid (HTB.out.2.trans (hb.mono HTB.out.2.size));have HX:=Lib.hid (HTB.out.1.keep hb);obtain ⟨p0,p1,p2,p3,p4,r0,r1,r2,r3,r4,r5⟩:=HX.out.zs;have HIT:=Lib.hid (show RdIt (fun k=>S0 k∨w.heap.size+2≤k) w1 _ _ from RdIt_txt HN.out);have HE:=Lib.hid (ok_txt text HT.out);have HW:=Lib.hid (show szM (txtI text)+9≤20 * t.wt by rw [sz_txt];have:=HV.out;omega);clear hb)
 refine bodyPost_ret (v:=.agg (itCells 4 0 none 0 0 text none 0 0)) (by simp [results,Tryz.results43,go_sem, *]) rfl ?_
 refine mt_fin HS.out HIT.out HE.out HW.out HB.out ?_
 iterate 5 (refine Chg.set2 ?_ (by exact rfl) _ _)
 exact Chg.refl _ _
set_option maxRecDepth 100000 in
set_option maxHeartbeats 4000000 in
theorem mtem_3 (S0:Nat→Prop) (t:T) (w:World) (hS:∀ k,S0 k→k < w.heap.size) (bits hi lo:Nat) (text more:ByteArray) (sub:Int) (ab:Option Addr) (nb cb:Nat) (ak:Option Addr) (nk ck:Nat) (f:F) (hm:∀ W,Below w.heap.size w W→Calls Tryz.prog 24 #[.slice ak nk ck] W (MuOut S0 f W)) (hw:f.wt+2≤t.wt):Calls Tryz.prog 43 #[.agg (valCells 3 bits hi lo text more sub ab nb cb ak nk ck)] w (MtOut S0 t w):=by
 have HTB:=Lib.hid (two_boxes w (valCells 3 bits hi lo text more sub ab nb cb ak nk ck))
 have HS:=Lib.hid hS
 have HV:=Lib.hid hw
 have HC:=Lib.hid (hm)
 clear hS
 go_enter Tryz.func43,Tryz.ntmps43
 go_wp2_with (go_at_call 24;(with_reducible refine (HC.out _ ?_).mono ?_);(case _=>exact HTB.out.2);rintro e w1 ⟨a9,n9,c9,g9,rfl,hs,hr9,hl9,hn9,hev,hge,hgw,hb⟩;have HB:=Lib.hid (HTB.out.2.trans (hb.mono HTB.out.2.size));have HX:=Lib.hid (HTB.out.1.keep hb);obtain ⟨p0,p1,p2,p3,p4,r0,r1,r2,r3,r4,r5⟩:=HX.out.zs;have HIT:=Lib.hid (show RdIt (fun k=>S0 k∨w.heap.size+2≤k) w1 _ _ from rdit_map (RdIs.imp (fun i _ h=>h.imp id (fun h=>by simp at h;omega)) hs) hl9 hn9 hr9);have HE:=Lib.hid (ok_map g9 (by omega) hge);have HW:=Lib.hid (show szM (I.mk 6 0 [] emB g9)+9≤20 * t.wt by rw [sz_map];have:=HV.out;omega);clear hb)
 refine bodyPost_ret (v:=.agg (itCells 6 0 none 0 0 ⟨#[]⟩ a9 n9 c9)) (by simp [results,Tryz.results43,go_sem, *]) rfl ?_
 refine mt_fin HS.out HIT.out HE.out HW.out HB.out ?_
 iterate 5 (refine Chg.set2 ?_ (by exact rfl) _ _)
 exact Chg.refl _ _
set_option maxRecDepth 100000 in
set_option maxHeartbeats 4000000 in
theorem mtem_16 (S0:Nat→Prop) (t:T) (w:World) (hS:∀ k,S0 k→k < w.heap.size) (bits hi lo:Nat) (text more:ByteArray) (sub:Int) (ab:Option Addr) (nb cb:Nat) (ak:Option Addr) (nk ck:Nat) (h2:2≤t.wt):Calls Tryz.prog 43 #[.agg (valCells 16 bits hi lo text more sub ab nb cb ak nk ck)] w (MtOut S0 t w):=by
 have HTB:=Lib.hid (two_boxes w (valCells 16 bits hi lo text more sub ab nb cb ak nk ck))
 have HS:=Lib.hid hS
 have HV:=Lib.hid h2
 clear h2
 have HC:=Lib.hid (fun v hv W=>integer29_calls v hv W)
 clear hS
 go_enter Tryz.func43,Tryz.ntmps43
 go_wp2_with (go_at_call 63;(with_reducible refine (HC.out _ (w64_ge _) _).mono ?_);rintro e w1 ⟨ki,ni,rfl,hk,hni,hb⟩;have HB:=Lib.hid (HTB.out.2.trans (hb.mono HTB.out.2.size));have HX:=Lib.hid (HTB.out.1.keep hb);obtain ⟨p0,p1,p2,p3,p4,r0,r1,r2,r3,r4,r5⟩:=HX.out.zs;have HIT:=Lib.hid (show RdIt (fun k=>S0 k∨w.heap.size+2≤k) w1 _ _ from rdit_num ki ni (by omega) (by unfold okSize;omega));have HE:=Lib.hid (ok_nu ki ni (by omega));have HW:=Lib.hid (show szM (nuI ki ni)+9≤20 * t.wt by rw [sz_nu];have:=HV.out;omega);clear hb)
 refine bodyPost_ret (v:=.agg (itCells ki ni none 0 0 ⟨#[]⟩ none 0 0)) (by simp [results,Tryz.results43,go_sem, *]) rfl ?_
 refine mt_fin HS.out HIT.out HE.out HW.out HB.out ?_
 iterate 5 (refine Chg.set2 ?_ (by exact rfl) _ _)
 exact Chg.refl _ _
set_option maxRecDepth 100000 in
set_option maxHeartbeats 4000000 in
theorem mtem_5 (S0:Nat→Prop) (t:T) (w:World) (hS:∀ k,S0 k→k < w.heap.size) (bits hi lo:Nat) (text more:ByteArray) (sub:Int) (ab:Option Addr) (nb cb:Nat) (ak:Option Addr) (nk ck:Nat) (bs:List UInt8) (hbs:RdBS S0 w ab nb bs) (hro:Roomy ab nb cb) (hw:bs.length+2≤t.wt):Calls Tryz.prog 43 #[.agg (valCells 5 bits hi lo text more 0 ab nb cb ak nk ck)] w (MtOut S0 t w):=by
 have HTB:=Lib.hid (two_boxes w (valCells 5 bits hi lo text more 0 ab nb cb ak nk ck))
 have HS:=Lib.hid hS
 have HV:=Lib.hid hw
 have HR:=Lib.hid hbs
 have HO:=Lib.hid hro
 clear hw hbs hro hS
 go_enter Tryz.func43,Tryz.ntmps43
 go_wp2_with fail
 refine bodyPost_ret (v:=.agg (itCells 3 0 ab nb cb ⟨#[]⟩ none 0 0)) (by simp [results,Tryz.results43,go_sem, *]) rfl ?_
 exact ⟨_,_,_,_,_,_,_,_,_,dataI bs,rfl,rdit_data (((HR.out.chgZ (((Below.refl _ _).alloc (Nat.le_refl _) _).alloc (by simp) _))).impZ (fun _ h=>.inl h)) HO.out,ok_data bs,by rw [sz_data];have:=HV.out;omega,((Below.refl _ _).alloc (Nat.le_refl _) _).alloc (by simp) _⟩
set_option maxRecDepth 100000 in
set_option maxHeartbeats 4000000 in
theorem mtem_7 (S0:Nat→Prop) (t:T) (w:World) (hS:∀ k,S0 k→k < w.heap.size) (bits hi lo:Nat) (text more:ByteArray) (sub:Int) (ab:Option Addr) (nb cb:Nat) (ak:Option Addr) (nk ck:Nat) (bs:List UInt8) (hbs:RdBS S0 w ab nb bs) (hro:Roomy ab nb cb) (hw:bs.length+2≤t.wt):Calls Tryz.prog 43 #[.agg (valCells 7 bits hi lo text more sub ab nb cb ak nk ck)] w (MtOut S0 t w):=by
 have hTB:=two_boxes w (valCells 7 bits hi lo text more sub ab nb cb ak nk ck)
 have HS:=Lib.hid hS
 obtain ⟨T,hT⟩:∃ T:Nat,T=sortM 7:=⟨_,rfl⟩
 have HT9:Hid (T≤127):=Lib.hid (by rw [hT];decide)
 have HX:Hid (∀ (a:Option Addr) (n c:Nat) (W:World),Calls Tryz.prog 64 #[.int .i64 7,.slice a n c] W fun e w'=>e=.returned (.agg (itCells 10 T a n c ⟨#[]⟩ none 0 0))∧Below W.heap.size W w'):=Lib.hid fun a n c W=>by rw [hT];exact exted_calls 7 (by omega) a n c W
 clear hT
 have HW:Hid (szM (extI T bs)+9≤20 * t.wt):=Lib.hid (by rw [sz_ext];omega)
 have HR:=Lib.hid hbs
 have HO:=Lib.hid hro
 clear hw hbs hro
 have HTB:=Lib.hid hTB
 clear hTB hS
 go_enter Tryz.func43,Tryz.ntmps43
 go_wp2_with (go_at_call 64;(with_reducible refine (HX.out ab nb cb _).mono ?_);rintro e w1 ⟨rfl,hb⟩;have HB6:=Lib.hid (HTB.out.2.trans (hb.mono HTB.out.2.size));have HX6:=Lib.hid (HTB.out.1.keep hb);obtain ⟨p0,p1,p2,p3,p4,r0,r1,r2,r3,r4,r5⟩:=HX6.out.zs;have HI6:=Lib.hid (show RdIt (fun k=>S0 k∨w.heap.size+2≤k) w1 _ _ from rdit_ext T (by have:=HT9.out;omega) ((HR.out.chgZ HB6.out).impZ (fun _ h=>.inl h)) HO.out);clear hb)
 refine bodyPost_ret (v:=.agg (itCells 10 T ab nb cb ⟨#[]⟩ none 0 0)) (by simp [results,Tryz.results43,go_sem, *]) rfl ?_
 refine mt_fin HS.out HI6.out (ok_ext T _ HT9.out) HW.out HB6.out ?_
 iterate 5 (refine Chg.set2 ?_ (by exact rfl) _ _)
 exact Chg.refl _ _
set_option maxRecDepth 100000 in
set_option maxHeartbeats 4000000 in
theorem mtem_6 (S0:Nat→Prop) (t:T) (w:World) (hS:∀ k,S0 k→k < w.heap.size) (bits hi lo:Nat) (text more:ByteArray) (sub:Int) (ab:Option Addr) (nb cb:Nat) (ak:Option Addr) (nk ck:Nat) (h2:2≤t.wt):Calls Tryz.prog 43 #[.agg (valCells 6 bits hi lo text more sub ab nb cb ak nk ck)] w (MtOut S0 t w):=by
 have hTB:=two_boxes w (valCells 6 bits hi lo text more sub ab nb cb ak nk ck)
 have HS:=Lib.hid hS
 obtain ⟨T,hT⟩:∃ T:Nat,T=sortM 6:=⟨_,rfl⟩
 have HT9:Hid (T≤127):=Lib.hid (by rw [hT];decide)
 have HX:Hid (∀ (a:Option Addr) (n c:Nat) (W:World),Calls Tryz.prog 64 #[.int .i64 6,.slice a n c] W fun e w'=>e=.returned (.agg (itCells 10 T a n c ⟨#[]⟩ none 0 0))∧Below W.heap.size W w'):=Lib.hid fun a n c W=>by rw [hT];exact exted_calls 6 (by omega) a n c W
 clear hT
 have HW:Hid (szM (extI T [])+9≤20 * t.wt):=Lib.hid (by rw [sz_ext];simp only [List.length_nil];omega)
 clear h2
 have HTB:=Lib.hid hTB
 clear hTB hS
 go_enter Tryz.func43,Tryz.ntmps43
 go_wp2_with (go_at_call 64;(with_reducible refine (HX.out none 0 0 _).mono ?_);rintro e w1 ⟨rfl,hb⟩;have HB6:=Lib.hid (HTB.out.2.trans (hb.mono HTB.out.2.size));have HX6:=Lib.hid (HTB.out.1.keep hb);obtain ⟨p0,p1,p2,p3,p4,r0,r1,r2,r3,r4,r5⟩:=HX6.out.zs;have HI6:=Lib.hid (show RdIt (fun k=>S0 k∨w.heap.size+2≤k) w1 _ _ from rdit_ext (bs:=[]) (ab:=none) (nb:=0) (cb:=0) T (by have:=HT9.out;omega) ⟨RdB.nil _ _,fun h=>absurd h (by omega)⟩ ⟨fun _=>rfl,Nat.le_refl _⟩);clear hb)
 refine bodyPost_ret (v:=.agg (itCells 10 T none 0 0 ⟨#[]⟩ none 0 0)) (by simp [results,Tryz.results43,go_sem, *]) rfl ?_
 refine mt_fin HS.out HI6.out (ok_ext T _ HT9.out) HW.out HB6.out ?_
 iterate 5 (refine Chg.set2 ?_ (by exact rfl) _ _)
 exact Chg.refl _ _
set_option maxRecDepth 100000 in
set_option maxHeartbeats 4000000 in
theorem mtem_127 (S0:Nat→Prop) (t:T) (w:World) (hS:∀ k,S0 k→k < w.heap.size) (bits hi lo:Nat) (text more:ByteArray) (sub:Int) (ab:Option Addr) (nb cb:Nat) (ak:Option Addr) (nk ck:Nat) (h2:2≤t.wt):Calls Tryz.prog 43 #[.agg (valCells 127 bits hi lo text more sub ab nb cb ak nk ck)] w (MtOut S0 t w):=by
 have hTB:=two_boxes w (valCells 127 bits hi lo text more sub ab nb cb ak nk ck)
 have HS:=Lib.hid hS
 obtain ⟨T,hT⟩:∃ T:Nat,T=sortM 127:=⟨_,rfl⟩
 have HT9:Hid (T≤127):=Lib.hid (by rw [hT];decide)
 have HX:Hid (∀ (a:Option Addr) (n c:Nat) (W:World),Calls Tryz.prog 64 #[.int .i64 127,.slice a n c] W fun e w'=>e=.returned (.agg (itCells 10 T a n c ⟨#[]⟩ none 0 0))∧Below W.heap.size W w'):=Lib.hid fun a n c W=>by rw [hT];exact exted_calls 127 (by omega) a n c W
 clear hT
 have HW:Hid (szM (extI T [])+9≤20 * t.wt):=Lib.hid (by rw [sz_ext];simp only [List.length_nil];omega)
 clear h2
 have HTB:=Lib.hid hTB
 clear hTB hS
 go_enter Tryz.func43,Tryz.ntmps43
 go_wp2_with (go_at_call 64;(with_reducible refine (HX.out none 0 0 _).mono ?_);rintro e w1 ⟨rfl,hb⟩;have HB6:=Lib.hid (HTB.out.2.trans (hb.mono HTB.out.2.size));have HX6:=Lib.hid (HTB.out.1.keep hb);obtain ⟨p0,p1,p2,p3,p4,r0,r1,r2,r3,r4,r5⟩:=HX6.out.zs;have HI6:=Lib.hid (show RdIt (fun k=>S0 k∨w.heap.size+2≤k) w1 _ _ from rdit_ext (bs:=[]) (ab:=none) (nb:=0) (cb:=0) T (by have:=HT9.out;omega) ⟨RdB.nil _ _,fun h=>absurd h (by omega)⟩ ⟨fun _=>rfl,Nat.le_refl _⟩);clear hb)
 refine bodyPost_ret (v:=.agg (itCells 10 T none 0 0 ⟨#[]⟩ none 0 0)) (by simp [results,Tryz.results43,go_sem, *]) rfl ?_
 refine mt_fin HS.out HI6.out (ok_ext T _ HT9.out) HW.out HB6.out ?_
 iterate 5 (refine Chg.set2 ?_ (by exact rfl) _ _)
 exact Chg.refl _ _
set_option maxRecDepth 100000 in
set_option maxHeartbeats 4000000 in
theorem mtem_255 (S0:Nat→Prop) (t:T) (w:World) (hS:∀ k,S0 k→k < w.heap.size) (bits hi lo:Nat) (text more:ByteArray) (sub:Int) (ab:Option Addr) (nb cb:Nat) (ak:Option Addr) (nk ck:Nat) (h2:2≤t.wt):Calls Tryz.prog 43 #[.agg (valCells 255 bits hi lo text more sub ab nb cb ak nk ck)] w (MtOut S0 t w):=by
 have hTB:=two_boxes w (valCells 255 bits hi lo text more sub ab nb cb ak nk ck)
 have HS:=Lib.hid hS
 obtain ⟨T,hT⟩:∃ T:Nat,T=sortM 255:=⟨_,rfl⟩
 have HT9:Hid (T≤127):=Lib.hid (by rw [hT];decide)
 have HX:Hid (∀ (a:Option Addr) (n c:Nat) (W:World),Calls Tryz.prog 64 #[.int .i64 255,.slice a n c] W fun e w'=>e=.returned (.agg (itCells 10 T a n c ⟨#[]⟩ none 0 0))∧Below W.heap.size W w'):=Lib.hid fun a n c W=>by rw [hT];exact exted_calls 255 (by omega) a n c W
 clear hT
 have HW:Hid (szM (extI T [])+9≤20 * t.wt):=Lib.hid (by rw [sz_ext];simp only [List.length_nil];omega)
 clear h2
 have HTB:=Lib.hid hTB
 clear hTB hS
 go_enter Tryz.func43,Tryz.ntmps43
 go_wp2_with (go_at_call 64;(with_reducible refine (HX.out none 0 0 _).mono ?_);rintro e w1 ⟨rfl,hb⟩;have HB6:=Lib.hid (HTB.out.2.trans (hb.mono HTB.out.2.size));have HX6:=Lib.hid (HTB.out.1.keep hb);obtain ⟨p0,p1,p2,p3,p4,r0,r1,r2,r3,r4,r5⟩:=HX6.out.zs;have HI6:=Lib.hid (show RdIt (fun k=>S0 k∨w.heap.size+2≤k) w1 _ _ from rdit_ext (bs:=[]) (ab:=none) (nb:=0) (cb:=0) T (by have:=HT9.out;omega) ⟨RdB.nil _ _,fun h=>absurd h (by omega)⟩ ⟨fun _=>rfl,Nat.le_refl _⟩);clear hb)
 refine bodyPost_ret (v:=.agg (itCells 10 T none 0 0 ⟨#[]⟩ none 0 0)) (by simp [results,Tryz.results43,go_sem, *]) rfl ?_
 refine mt_fin HS.out HI6.out (ok_ext T _ HT9.out) HW.out HB6.out ?_
 iterate 5 (refine Chg.set2 ?_ (by exact rfl) _ _)
 exact Chg.refl _ _
set_option maxRecDepth 100000 in
set_option maxHeartbeats 4000000 in
theorem mtem_13 (S0:Nat→Prop) (t:T) (w:World) (hS:∀ k,S0 k→k < w.heap.size) (bits hi lo:Nat) (text more:ByteArray) (sub:Int) (ab:Option Addr) (nb cb:Nat) (ak:Option Addr) (nk ck:Nat) (hn:text.size≤1048576) (hw:text.size+2≤t.wt):Calls Tryz.prog 43 #[.agg (valCells 13 bits hi lo text more sub ab nb cb ak nk ck)] w (MtOut S0 t w):=by
 have hTB:=two_boxes w (valCells 13 bits hi lo text more sub ab nb cb ak nk ck)
 have HS:=Lib.hid hS
 obtain ⟨T,hT⟩:∃ T:Nat,T=sortM 13:=⟨_,rfl⟩
 have HT9:Hid (T≤127):=Lib.hid (by rw [hT];decide)
 have HX:Hid (∀ (a:Option Addr) (n c:Nat) (W:World),Calls Tryz.prog 64 #[.int .i64 13,.slice a n c] W fun e w'=>e=.returned (.agg (itCells 10 T a n c ⟨#[]⟩ none 0 0))∧Below W.heap.size W w'):=Lib.hid fun a n c W=>by rw [hT];exact exted_calls 13 (by omega) a n c W
 clear hT
 have HW:Hid (szM (extI T (sl text))+9≤20 * t.wt):=Lib.hid (by rw [sz_ext,sl_len];omega)
 obtain ⟨wa,hwa⟩:∃ W,W=((w.alloc (.cells (valCells 13 bits hi lo text more sub ab nb cb ak nk ck) 26)).alloc (.cells #[.int .i64 0,.int .u64 0,.slice none 0 0,.string ⟨#[]⟩,.slice none 0 0] 39)):=⟨_,rfl⟩
 have HTB:Hid (BoxI wa (w.heap.size+1) z5∧Below w.heap.size w wa):=Lib.hid (by rw [hwa];exact hTB)
 have HBV:Hid (BoxV wa w.heap.size (valCells 13 bits hi lo text more sub ab nb cb ak nk ck)):=Lib.hid (by rw [hwa];exact (BoxV.new w _ _).keep ((Below.refl _ _).alloc (Nat.le_refl _) _))
 obtain ⟨cap3,w3,hrun,hb3,hs3,hr3,hz1,hz2⟩:=conv_bytes wa text hn
 obtain ⟨g3,hg3⟩:∃ g,g=wa.heap.size:=⟨_,rfl⟩
 rw [← hg3] at hrun hr3
 have HR3:Hid (RdBS (fun k=>S0 k∨w.heap.size+2≤k) w3 (some ⟨g3,0,none⟩) text.size (sl text)):=Lib.hid ⟨hr3,fun _ p hp=>.inr (by obtain rfl:=Option.some.inj hp;have:=HTB.out.1.1;show w.heap.size+2≤g3;omega)⟩
 have HO3:Hid (Roomy (some ⟨g3,0,none⟩) text.size cap3):=Lib.hid ⟨by simp,hz1⟩
 have HB3:=Lib.hid hb3
 clear hn hw hb3 hs3 hr3 hz1 hz2 hTB hS hg3
 obtain ⟨f0,f1,f2,f3,f4,f5,f6,f7,f8,l0⟩:=HBV.out.nine
 go_enter Tryz.func43,Tryz.ntmps43
 go_upto_region 37 with fail
 rw [← hwa]
 clear hwa
 go_wp2_with (go_at_call 64;(with_reducible refine (HX.out (some ⟨g3,0,none⟩) text.size cap3 _).mono ?_);rintro e w1 ⟨rfl,hb⟩;have hb4:=HB3.out.trans (hb.mono HB3.out.size);have HB6:=Lib.hid (HTB.out.2.trans (hb4.mono HTB.out.2.size));have HX6:=Lib.hid (HTB.out.1.keep hb4);obtain ⟨p0,p1,p2,p3,p4,r0,r1,r2,r3,r4,r5⟩:=HX6.out.zs;have HI6:=Lib.hid (show RdIt (fun k=>S0 k∨w.heap.size+2≤k) w1 _ _ from rdit_ext T (by have:=HT9.out;omega) (HR3.out.chgZ hb) HO3.out);clear hb hb4)
 refine bodyPost_ret (v:=.agg (itCells 10 T (some ⟨g3,0,none⟩) text.size cap3 ⟨#[]⟩ none 0 0)) (by simp [results,Tryz.results43,go_sem, *]) rfl ?_
 refine mt_fin HS.out HI6.out (ok_ext T _ HT9.out) HW.out HB6.out ?_
 iterate 5 (refine Chg.set2 ?_ (by exact rfl) _ _)
 exact Chg.refl _ _
set_option maxRecDepth 100000 in
set_option maxHeartbeats 4000000 in
theorem mtem_14 (S0:Nat→Prop) (t:T) (w:World) (hS:∀ k,S0 k→k < w.heap.size) (bits hi lo:Nat) (text more:ByteArray) (sub:Int) (ab:Option Addr) (nb cb:Nat) (ak:Option Addr) (nk ck:Nat) (hn:text.size≤1048576) (hw:text.size+2≤t.wt):Calls Tryz.prog 43 #[.agg (valCells 14 bits hi lo text more sub ab nb cb ak nk ck)] w (MtOut S0 t w):=by
 have hTB:=two_boxes w (valCells 14 bits hi lo text more sub ab nb cb ak nk ck)
 have HS:=Lib.hid hS
 obtain ⟨T,hT⟩:∃ T:Nat,T=sortM 14:=⟨_,rfl⟩
 have HT9:Hid (T≤127):=Lib.hid (by rw [hT];decide)
 have HX:Hid (∀ (a:Option Addr) (n c:Nat) (W:World),Calls Tryz.prog 64 #[.int .i64 14,.slice a n c] W fun e w'=>e=.returned (.agg (itCells 10 T a n c ⟨#[]⟩ none 0 0))∧Below W.heap.size W w'):=Lib.hid fun a n c W=>by rw [hT];exact exted_calls 14 (by omega) a n c W
 clear hT
 have HW:Hid (szM (extI T (sl text))+9≤20 * t.wt):=Lib.hid (by rw [sz_ext,sl_len];omega)
 obtain ⟨wa,hwa⟩:∃ W,W=((w.alloc (.cells (valCells 14 bits hi lo text more sub ab nb cb ak nk ck) 26)).alloc (.cells #[.int .i64 0,.int .u64 0,.slice none 0 0,.string ⟨#[]⟩,.slice none 0 0] 39)):=⟨_,rfl⟩
 have HTB:Hid (BoxI wa (w.heap.size+1) z5∧Below w.heap.size w wa):=Lib.hid (by rw [hwa];exact hTB)
 have HBV:Hid (BoxV wa w.heap.size (valCells 14 bits hi lo text more sub ab nb cb ak nk ck)):=Lib.hid (by rw [hwa];exact (BoxV.new w _ _).keep ((Below.refl _ _).alloc (Nat.le_refl _) _))
 obtain ⟨cap3,w3,hrun,hb3,hs3,hr3,hz1,hz2⟩:=conv_bytes wa text hn
 obtain ⟨g3,hg3⟩:∃ g,g=wa.heap.size:=⟨_,rfl⟩
 rw [← hg3] at hrun hr3
 have HR3:Hid (RdBS (fun k=>S0 k∨w.heap.size+2≤k) w3 (some ⟨g3,0,none⟩) text.size (sl text)):=Lib.hid ⟨hr3,fun _ p hp=>.inr (by obtain rfl:=Option.some.inj hp;have:=HTB.out.1.1;show w.heap.size+2≤g3;omega)⟩
 have HO3:Hid (Roomy (some ⟨g3,0,none⟩) text.size cap3):=Lib.hid ⟨by simp,hz1⟩
 have HB3:=Lib.hid hb3
 clear hn hw hb3 hs3 hr3 hz1 hz2 hTB hS hg3
 obtain ⟨f0,f1,f2,f3,f4,f5,f6,f7,f8,l0⟩:=HBV.out.nine
 go_enter Tryz.func43,Tryz.ntmps43
 go_upto_region 37 with fail
 rw [← hwa]
 clear hwa
 go_wp2_with (go_at_call 64;(with_reducible refine (HX.out (some ⟨g3,0,none⟩) text.size cap3 _).mono ?_);rintro e w1 ⟨rfl,hb⟩;have hb4:=HB3.out.trans (hb.mono HB3.out.size);have HB6:=Lib.hid (HTB.out.2.trans (hb4.mono HTB.out.2.size));have HX6:=Lib.hid (HTB.out.1.keep hb4);obtain ⟨p0,p1,p2,p3,p4,r0,r1,r2,r3,r4,r5⟩:=HX6.out.zs;have HI6:=Lib.hid (show RdIt (fun k=>S0 k∨w.heap.size+2≤k) w1 _ _ from rdit_ext T (by have:=HT9.out;omega) (HR3.out.chgZ hb) HO3.out);clear hb hb4)
 refine bodyPost_ret (v:=.agg (itCells 10 T (some ⟨g3,0,none⟩) text.size cap3 ⟨#[]⟩ none 0 0)) (by simp [results,Tryz.results43,go_sem, *]) rfl ?_
 refine mt_fin HS.out HI6.out (ok_ext T _ HT9.out) HW.out HB6.out ?_
 iterate 5 (refine Chg.set2 ?_ (by exact rfl) _ _)
 exact Chg.refl _ _
end Go.Proofs.YtmooaepbdmengaaGreatDoor
