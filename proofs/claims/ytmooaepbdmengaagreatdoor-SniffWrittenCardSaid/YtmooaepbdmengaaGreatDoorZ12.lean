/- Parts of the proof of SniffWritten: ItC, ItD, ItE, ItF, ItG. -/
import Derived.Test.YtmooaepbdmengaaGreatDoorZ11
namespace Go.Proofs.YtmooaepbdmengaaGreatDoor
open Go.RowKit
set_option linter.unusedVariables false
set_option linter.unusedSimpArgs false
theorem rdit_num {S:Nat→Prop} {w:World} (k:Int) (n:Nat) (hk:-9223372036854775808≤k∧k≤9223372036854775807) (hn:n < okSize):RdIt S w (nuI k n) (itCells k n none 0 0 ⟨#[]⟩ none 0 0):=
 ⟨none,0,0,none,0,0,rfl,⟨hk,hn,by decide⟩,⟨RdB.nil _ _,fun h=>absurd h (by omega)⟩,rfl,⟨by omega,⟨fun _=>rfl,Nat.le_refl _⟩,⟨fun _=>rfl,Nat.le_refl _⟩⟩,trivial⟩
theorem rdit_data {S:Nat→Prop} {w:World} {ab:Option Addr} {nb cb:Nat} {bs:List UInt8} (h:RdBS S w ab nb bs) (hr:Roomy ab nb cb):RdIt S w (dataI bs) (itCells 3 0 ab nb cb ⟨#[]⟩ none 0 0):=
 ⟨ab,nb,cb,none,0,0,rfl,⟨⟨by omega,by omega⟩,by decide,by decide⟩,h,rfl,⟨by omega,⟨fun _=>rfl,Nat.le_refl _⟩,hr⟩,trivial⟩
theorem rdit_map {S:Nat→Prop} {w:World} {a:Option Addr} {n c:Nat} {g:IL} (h:RdIs S w a 0 g) (hl:g.len=n) (hn:n≤9223372036854775807) (hr:Roomy a n c):RdIt S w (.mk 6 0 [] emB g) (itCells 6 0 none 0 0 ⟨#[]⟩ a n c):=
 ⟨none,0,0,a,n,c,rfl,⟨⟨by omega,by omega⟩,by decide,by decide⟩,⟨RdB.nil _ _,fun h=>absurd h (by omega)⟩,hl,⟨hn,hr,⟨fun _=>rfl,Nat.le_refl _⟩⟩,h⟩
theorem rdit_list {S:Nat→Prop} {w:World} {a:Option Addr} {n c:Nat} {g:IL} (h:RdIs S w a 0 g) (hl:g.len=n) (hn:n≤9223372036854775807) (hr:Roomy a n c):RdIt S w (listI g) (itCells 5 0 none 0 0 ⟨#[]⟩ a n c):=
 ⟨none,0,0,a,n,c,rfl,⟨⟨by omega,by omega⟩,by decide,by decide⟩,⟨RdB.nil _ _,fun h=>absurd h (by omega)⟩,hl,⟨hn,hr,⟨fun _=>rfl,Nat.le_refl _⟩⟩,h⟩
theorem rdis_one {S:Nat→Prop} {w:World} {x:I} {c:Array Value} {g:Nat} (h:RdIt S w x c) (hS:S g) (hc:∀ j u,c.toList[j]?=some u→w.cell? ⟨g,j,none⟩=some u):RdIs S w (some ⟨g,0,none⟩) 0 (.cons x .nil):=by
 have hs:=h.size
 refine ⟨⟨g,0,c,rfl,hS,fun j hj=>?_,h⟩,trivial⟩
 have hjc:j < c.size:=by omega
 have:=hc j (c[j]) (by simp [hjc])
 rw [show 0+0 * 5+j=j from by omega,this,Array.getElem?_eq_getElem hjc]
theorem rdit_tag {S:Nat→Prop} {w:World} {x:I} {c:Array Value} {g:Nat} (kd:Nat) (hk:kd≤1000000) (h:RdIt S w x c) (hS:S g) (hc:∀ j u,c.toList[j]?=some u→w.cell? ⟨g,j,none⟩=some u) :
  RdIt S w (tagI (kd:Nat) x) (itCells 7 (1000+kd) none 0 0 ⟨#[]⟩ (some ⟨g,0,none⟩) 1 1):=by
 have e:(1000+((kd:Nat):Int)).toNat=1000+kd:=by omega
 unfold tagI
 rw [e]
 exact ⟨none,0,0,some ⟨g,0,none⟩,1,1,rfl,⟨⟨by omega,by omega⟩,by unfold okSize;omega,by decide⟩,⟨RdB.nil _ _,fun h=>absurd h (by omega)⟩,rfl,⟨by omega,⟨by simp,Nat.le_refl _⟩,⟨fun _=>rfl,Nat.le_refl _⟩⟩,rdis_one h hS hc⟩
theorem rdis_two {S:Nat→Prop} {w:World} {x y:I} {c e:Array Value} {g:Nat} (h:RdIt S w x c) (h2:RdIt S w y e) (hS:S g) (hc:∀ j u,(c.toList++e.toList)[j]?=some u→w.cell? ⟨g,j,none⟩=some u):RdIs S w (some ⟨g,0,none⟩) 0 (.cons x (.cons y .nil)):=by
 have hk:IsC S w (.cons x (.cons y .nil)) (c.toList++e.toList):=⟨c,e.toList,rfl,h,IsC.one h2⟩
 refine IsC.reads (S:=S) (b:=g) (o:=0) (fun _ _ h=>h) hS 0 hk fun j u hj=>?_
 rw [show 0+(0 * 5+j)=j from by omega]
 exact hc j u hj
theorem it_num {S0:Nat→Prop} {t:T} {w w':World} (k:Int) (n:Nat) (hk:k=1∨k=2∨k=9∨(k=8∧20≤n∧n≤23)) (hn:n < okSize) (hb:Below w.heap.size w w'):ItOut S0 t w (.returned (.agg (itCells k n none 0 0 ⟨#[]⟩ none 0 0))) w':=by
 have h2:2≤t.wt:=by cases t;simp only [T.wt];omega
 exact ⟨_,_,_,_,_,_,_,_,_,_,rfl,rdit_num k n (by rcases hk with rfl|rfl|rfl|⟨rfl,-⟩<;>omega) hn,err_nu _ _ hk,by have:=zt_nu k n;omega,hb⟩
set_option maxRecDepth 100000 in
set_option maxHeartbeats 4000000 in
theorem item_1 (S0:Nat→Prop) (t:T) (w:World) (bits hi lo:Nat) (text more:ByteArray) (sub:Int) (ab:Option Addr) (nb cb:Nat) (ak:Option Addr) (nk ck:Nat) (hb:bits < okSize):Calls Tryz.prog 37 #[.agg (valCells 1 bits hi lo text more sub ab nb cb ak nk ck)] w (ItOut S0 t w):=by
 go_enter Tryz.func37,Tryz.ntmps37
 go_wp2_with fail
 refine bodyPost_ret (v:=.agg (itCells 9 bits none 0 0 ⟨#[]⟩ none 0 0)) (by simp [results,Tryz.results37,go_sem, *]) rfl ?_
 exact it_num _ _ (by first|(simp;done)|(simp;omega)) (by first|assumption|decide|omega) (((Below.refl _ _).alloc (Nat.le_refl _) _).alloc (by simp) _)
set_option maxRecDepth 100000 in
set_option maxHeartbeats 4000000 in
theorem item_6 (S0:Nat→Prop) (t:T) (w:World) (bits hi lo:Nat) (text more:ByteArray) (sub:Int) (ab:Option Addr) (nb cb:Nat) (ak:Option Addr) (nk ck:Nat):Calls Tryz.prog 37 #[.agg (valCells 6 bits hi lo text more sub ab nb cb ak nk ck)] w (ItOut S0 t w):=by
 go_enter Tryz.func37,Tryz.ntmps37
 go_wp2_with fail
 refine bodyPost_ret (v:=.agg (itCells 8 23 none 0 0 ⟨#[]⟩ none 0 0)) (by simp [results,Tryz.results37,go_sem, *]) rfl ?_
 exact it_num _ _ (by first|(simp;done)|(simp;omega)) (by first|assumption|decide|omega) (((Below.refl _ _).alloc (Nat.le_refl _) _).alloc (by simp) _)
set_option maxRecDepth 100000 in
set_option maxHeartbeats 4000000 in
theorem item_10 (S0:Nat→Prop) (t:T) (w:World) (bits hi lo:Nat) (text more:ByteArray) (sub:Int) (ab:Option Addr) (nb cb:Nat) (ak:Option Addr) (nk ck:Nat):Calls Tryz.prog 37 #[.agg (valCells 10 bits hi lo text more sub ab nb cb ak nk ck)] w (ItOut S0 t w):=by
 go_enter Tryz.func37,Tryz.ntmps37
 go_wp2_with fail
 refine bodyPost_ret (v:=.agg (itCells 8 22 none 0 0 ⟨#[]⟩ none 0 0)) (by simp [results,Tryz.results37,go_sem, *]) rfl ?_
 exact it_num _ _ (by first|(simp;done)|(simp;omega)) (by first|assumption|decide|omega) (((Below.refl _ _).alloc (Nat.le_refl _) _).alloc (by simp) _)
set_option maxRecDepth 100000 in
set_option maxHeartbeats 4000000 in
theorem item_8 (S0:Nat→Prop) (t:T) (w:World) (bits hi lo:Nat) (text more:ByteArray) (sub:Int) (ab:Option Addr) (nb cb:Nat) (ak:Option Addr) (nk ck:Nat) (hb:bits < 2):Calls Tryz.prog 37 #[.agg (valCells 8 bits hi lo text more sub ab nb cb ak nk ck)] w (ItOut S0 t w):=by
 have e1:IntKind.u64.wrap (20+(bits:Int))=((20+bits:Nat):Int):=by rw [IntKind.wrap_u64];omega
 obtain ⟨B,hB⟩:∃ B,B=20+bits:=⟨_,rfl⟩
 have hB1:20≤B:=by omega
 have hB2:B≤23:=by omega
 have hB3:B < okSize:=by unfold okSize;omega
 rw [← hB] at e1
 clear hB
 go_enter Tryz.func37,Tryz.ntmps37
 go_wp2_with fail
 refine bodyPost_ret (v:=.agg (itCells 8 B none 0 0 ⟨#[]⟩ none 0 0)) (by simp [results,Tryz.results37,go_sem, *]) rfl ?_
 exact it_num _ _ (by first|(simp;done)|(simp;omega)) (by first|assumption|decide|omega) (((Below.refl _ _).alloc (Nat.le_refl _) _).alloc (by simp) _)
theorem BoxI.zs {W:World} {g:Nat} (h:BoxI W g z5):W.cell? ⟨g,0,none⟩=some (.int .i64 0)∧W.cell? ⟨g,1,none⟩=some (.int .u64 0)∧W.cell? ⟨g,2,none⟩=some (.slice none 0 0)∧W.cell? ⟨g,3,none⟩=some (.string ⟨#[]⟩)∧W.cell? ⟨g,4,none⟩=some (.slice none 0 0) ∧
  W.frozen? ⟨g,0,none⟩=false∧W.frozen? ⟨g,1,none⟩=false∧W.frozen? ⟨g,2,none⟩=false∧W.frozen? ⟨g,3,none⟩=false∧W.frozen? ⟨g,4,none⟩=false∧g < W.heap.size:=
 ⟨(h.2 0 (by omega)).1,(h.2 1 (by omega)).1,(h.2 2 (by omega)).1,(h.2 3 (by omega)).1,(h.2 4 (by omega)).1,(h.2 0 (by omega)).2,(h.2 1 (by omega)).2,(h.2 2 (by omega)).2,(h.2 3 (by omega)).2,(h.2 4 (by omega)).2,h.1⟩
theorem two_boxes (w:World) (cs:Array Value):BoxI ((w.alloc (.cells cs 26)).alloc (.cells z5 39)) (w.heap.size+1) z5∧Below w.heap.size w ((w.alloc (.cells cs 26)).alloc (.cells z5 39)):=by
 refine ⟨?_,((Below.refl _ _).alloc (Nat.le_refl _) _).alloc (by simp) _⟩
 have:=BoxI.new (w.alloc (.cells cs 26)) z5 39
 rwa [World.size_alloc] at this
theorem it_fin {S0:Nat→Prop} {t:T} {w w1 W':World} {k:Int} {n:Nat} {ab:Option Addr} {nb cb:Nat} {text:ByteArray} {ak:Option Addr} {nk ck:Nat} {x:I} (hS:∀ k,S0 k→k < w.heap.size) (hr:RdIt (fun k=>S0 k∨w.heap.size+2≤k) w1 x (itCells k n ab nb cb text ak nk ck)) (he:errI x=0) (hw:x.zt+5≤18 * t.wt)
  (hb:Below w.heap.size w w1) (hC:Chg (fun k=>k=w.heap.size+1) w1 W'):ItOut S0 t w (.returned (.agg (itCells k n ab nb cb text ak nk ck))) W':=by
 refine ⟨_,_,_,_,_,_,_,_,_,x,rfl,?_,he,hw,hb.trans (hC.below hb.size (fun i hi=>by omega))⟩
 exact (hr.keep (KeepS.chg hC (fun i hi e=>by rcases hi with hi|hi;have:=hS i hi;omega;omega))).imp (fun i _ hi=>hi.imp id (fun h=>by omega))
set_option maxRecDepth 100000 in
set_option maxHeartbeats 4000000 in
theorem item_2 (S0:Nat→Prop) (t:T) (w:World) (hS:∀ k,S0 k→k < w.heap.size) (bits hi lo:Nat) (text more:ByteArray) (sub:Int) (ab:Option Addr) (nb cb:Nat) (ak:Option Addr) (nk ck:Nat) (hn:text.size≤9223372036854775807) (hw:text.size+2≤t.wt) (ht:(wholeTo (sl text) == text.size)=true):Calls Tryz.prog 37 #[.agg (valCells 2 bits hi lo text more sub ab nb cb ak nk ck)] w (ItOut S0 t w):=by
 have HTB:=Lib.hid (two_boxes w (valCells 2 bits hi lo text more sub ab nb cb ak nk ck))
 have HS:=Lib.hid hS
 have HN:=Lib.hid hn
 have HT:=Lib.hid ht
 have HV:=Lib.hid hw
 clear hn ht hw
 have HC:=Lib.hid (fun W=>text28_calls text W)
 clear hS
 go_enter Tryz.func37,Tryz.ntmps37
 go_wp2_with (go_at_call 36;(with_reducible refine (HC.out _).mono ?_);rintro e w1 ⟨rfl,hb⟩;have HB:=Lib.hid (HTB.out.2.trans (hb.mono HTB.out.2.size));have HX:=Lib.hid (HTB.out.1.keep hb);obtain ⟨p0,p1,p2,p3,p4,r0,r1,r2,r3,r4,r5⟩:=HX.out.zs;have HIT:=Lib.hid (show RdIt (fun k=>S0 k∨w.heap.size+2≤k) w1 _ _ from RdIt_txt HN.out);have HE:=Lib.hid (err_txt text HT.out);have HW:=Lib.hid (show (txtI text).zt+5≤18 * t.wt by rw [zt_txt];have:=HV.out;omega);clear hb)
 refine bodyPost_ret (v:=.agg (itCells 4 0 none 0 0 text none 0 0)) (by simp [results,Tryz.results37,go_sem, *]) rfl ?_
 refine it_fin HS.out HIT.out HE.out HW.out HB.out ?_
 iterate 5 (refine Chg.set2 ?_ (by exact rfl) _ _)
 exact Chg.refl _ _
set_option maxRecDepth 100000 in
set_option maxHeartbeats 4000000 in
theorem item_3 (S0:Nat→Prop) (t:T) (w:World) (hS:∀ k,S0 k→k < w.heap.size) (bits hi lo:Nat) (text more:ByteArray) (sub:Int) (ab:Option Addr) (nb cb:Nat) (ak:Option Addr) (nk ck:Nat) (f:F) (hm:∀ W,Below w.heap.size w W→Calls Tryz.prog 20 #[.slice ak nk ck] W (MapOut S0 f W)) (hw:f.wt+2≤t.wt):Calls Tryz.prog 37 #[.agg (valCells 3 bits hi lo text more sub ab nb cb ak nk ck)] w (ItOut S0 t w):=by
 have HTB:=Lib.hid (two_boxes w (valCells 3 bits hi lo text more sub ab nb cb ak nk ck))
 have HS:=Lib.hid hS
 have HV:=Lib.hid hw
 have HC:=Lib.hid (hm)
 clear hS
 go_enter Tryz.func37,Tryz.ntmps37
 go_wp2_with (go_at_call 20;(with_reducible refine (HC.out _ ?_).mono ?_);(case _=>exact HTB.out.2);rintro e w1 ⟨a9,n9,c9,g9,rfl,hs,hr9,hl9,hn9,hev,hge,hgw,hb⟩;have HB:=Lib.hid (HTB.out.2.trans (hb.mono HTB.out.2.size));have HX:=Lib.hid (HTB.out.1.keep hb);obtain ⟨p0,p1,p2,p3,p4,r0,r1,r2,r3,r4,r5⟩:=HX.out.zs;have HIT:=Lib.hid (show RdIt (fun k=>S0 k∨w.heap.size+2≤k) w1 _ _ from rdit_map (RdIs.imp (fun i _ h=>h.imp id (fun h=>by simp at h;omega)) hs) hl9 hn9 hr9);have HE:=Lib.hid (err_map g9 (by omega) hge);have HW:=Lib.hid (show (I.mk 6 0 [] emB g9).zt+5≤18 * t.wt by rw [zt_map];have:=HV.out;omega);clear hb)
 refine bodyPost_ret (v:=.agg (itCells 6 0 none 0 0 ⟨#[]⟩ a9 n9 c9)) (by simp [results,Tryz.results37,go_sem, *]) rfl ?_
 refine it_fin HS.out HIT.out HE.out HW.out HB.out ?_
 iterate 5 (refine Chg.set2 ?_ (by exact rfl) _ _)
 exact Chg.refl _ _
set_option maxRecDepth 100000 in
set_option maxHeartbeats 4000000 in
theorem item_5 (S0:Nat→Prop) (t:T) (w:World) (hS:∀ k,S0 k→k < w.heap.size) (bits hi lo:Nat) (text more:ByteArray) (sub:Int) (ab:Option Addr) (nb cb:Nat) (ak:Option Addr) (nk ck:Nat) (bs:List UInt8) (hbs:RdBS S0 w ab nb bs) (hro:Roomy ab nb cb) (hw:bs.length+2≤t.wt):Calls Tryz.prog 37 #[.agg (valCells 5 bits hi lo text more 0 ab nb cb ak nk ck)] w (ItOut S0 t w):=by
 have HTB:=Lib.hid (two_boxes w (valCells 5 bits hi lo text more 0 ab nb cb ak nk ck))
 have HS:=Lib.hid hS
 have HV:=Lib.hid hw
 have HR:=Lib.hid hbs
 have HO:=Lib.hid hro
 clear hw hbs hro
 have HC:=Lib.hid (fun W=>data28_calls ab nb cb W)
 clear hS
 go_enter Tryz.func37,Tryz.ntmps37
 go_wp2_with (go_at_call 62;(with_reducible refine (HC.out _).mono ?_);rintro e w1 ⟨rfl,hb⟩;have HB:=Lib.hid (HTB.out.2.trans (hb.mono HTB.out.2.size));have HX:=Lib.hid (HTB.out.1.keep hb);obtain ⟨p0,p1,p2,p3,p4,r0,r1,r2,r3,r4,r5⟩:=HX.out.zs;have HIT:=Lib.hid (show RdIt (fun k=>S0 k∨w.heap.size+2≤k) w1 _ _ from rdit_data (bs:=bs) ⟨(HR.out.keep (KeepS.below HB.out)).1,fun h p hp=>.inl (HR.out.2 h p hp)⟩ HO.out);have HE:=Lib.hid (err_data bs);have HW:=Lib.hid (show (dataI bs).zt+5≤18 * t.wt by rw [zt_data];have:=HV.out;omega);clear hb)
 refine bodyPost_ret (v:=.agg (itCells 3 0 ab nb cb ⟨#[]⟩ none 0 0)) (by simp [results,Tryz.results37,go_sem, *]) rfl ?_
 refine it_fin HS.out HIT.out HE.out HW.out HB.out ?_
 iterate 5 (refine Chg.set2 ?_ (by exact rfl) _ _)
 exact Chg.refl _ _
set_option maxRecDepth 100000 in
set_option maxHeartbeats 4000000 in
theorem item_16 (S0:Nat→Prop) (t:T) (w:World) (hS:∀ k,S0 k→k < w.heap.size) (bits hi lo:Nat) (text more:ByteArray) (sub:Int) (ab:Option Addr) (nb cb:Nat) (ak:Option Addr) (nk ck:Nat) (h2:2≤t.wt):Calls Tryz.prog 37 #[.agg (valCells 16 bits hi lo text more sub ab nb cb ak nk ck)] w (ItOut S0 t w):=by
 have HTB:=Lib.hid (two_boxes w (valCells 16 bits hi lo text more sub ab nb cb ak nk ck))
 have HS:=Lib.hid hS
 have HV:=Lib.hid h2
 clear h2
 have HC:=Lib.hid (fun v W=>integer28_calls v W)
 clear hS
 go_enter Tryz.func37,Tryz.ntmps37
 go_wp2_with (go_at_call 63;(with_reducible refine (HC.out _ _).mono ?_);rintro e w1 ⟨ki,ni,rfl,hk,hni,hb⟩;have HB:=Lib.hid (HTB.out.2.trans (hb.mono HTB.out.2.size));have HX:=Lib.hid (HTB.out.1.keep hb);obtain ⟨p0,p1,p2,p3,p4,r0,r1,r2,r3,r4,r5⟩:=HX.out.zs;have HIT:=Lib.hid (show RdIt (fun k=>S0 k∨w.heap.size+2≤k) w1 _ _ from rdit_num ki ni (by omega) (by unfold okSize;omega));have HE:=Lib.hid (err_nu ki ni (by omega));have HW:=Lib.hid (show (nuI ki ni).zt+5≤18 * t.wt by have:=zt_nu ki ni;have:=HV.out;omega);clear hb)
 refine bodyPost_ret (v:=.agg (itCells ki ni none 0 0 ⟨#[]⟩ none 0 0)) (by simp [results,Tryz.results37,go_sem, *]) rfl ?_
 refine it_fin HS.out HIT.out HE.out HW.out HB.out ?_
 iterate 5 (refine Chg.set2 ?_ (by exact rfl) _ _)
 exact Chg.refl _ _
set_option maxRecDepth 100000 in
set_option maxHeartbeats 4000000 in
theorem item_7 (S0:Nat→Prop) (t:T) (w:World) (hS:∀ k,S0 k→k < w.heap.size) (bits hi lo:Nat) (text more:ByteArray) (sub:Int) (ab:Option Addr) (nb cb:Nat) (ak:Option Addr) (nk ck:Nat) (bs:List UInt8) (hbs:RdBS S0 w ab nb bs) (hro:Roomy ab nb cb) (hw:bs.length+2≤t.wt):Calls Tryz.prog 37 #[.agg (valCells 7 bits hi lo text more sub ab nb cb ak nk ck)] w (ItOut S0 t w):=by
 have hTB:=two_boxes w (valCells 7 bits hi lo text more sub ab nb cb ak nk ck)
 obtain ⟨wa,hwa⟩:∃ W,W=((w.alloc (.cells (valCells 7 bits hi lo text more sub ab nb cb ak nk ck) 26)).alloc (.cells #[.int .i64 0,.int .u64 0,.slice none 0 0,.string ⟨#[]⟩,.slice none 0 0] 39)):=⟨_,rfl⟩
 have hTB:BoxI wa (w.heap.size+1) z5∧Below w.heap.size w wa:=by rw [hwa];exact hTB
 have hBV:BoxV wa w.heap.size (valCells 7 bits hi lo text more sub ab nb cb ak nk ck):=by rw [hwa];exact (BoxV.new w _ _).keep ((Below.refl _ _).alloc (Nat.le_refl _) _)
 have HTB:=Lib.hid hTB
 have HBV:=Lib.hid hBV
 have HS:=Lib.hid hS
 have HV:=Lib.hid hw
 have HR:=Lib.hid hbs
 have HO:=Lib.hid hro
 clear hw hbs hro
 have HC:=Lib.hid (fun W=>data28_calls ab nb cb W)
 obtain ⟨T,hT⟩:∃ T:Nat,T=1000+7:=⟨_,rfl⟩
 have HT:Hid (∀ (k':Int) (n':Nat) (ab':Option Addr) (nb' cb':Nat) (tx':ByteArray) (ak':Option Addr) (nk' ck':Nat) (W:World),Calls Tryz.prog 60 #[.int .i64 7,.agg (itCells k' n' ab' nb' cb' tx' ak' nk' ck')] W (TagO T (itCells k' n' ab' nb' cb' tx' ak' nk' ck') W)):=Lib.hid fun k' n' ab' nb' cb' tx' ak' nk' ck' W=>by rw [hT];exact tag28_calls 7 (by omega) k' n' ab' nb' cb' tx' ak' nk' ck' W
 have HKS:Hid (∀ W,Chg (fun k=>k=w.heap.size+1) wa W→Hid (Chg (fun k=>k=w.heap.size+1) wa W)∧W.cell? ⟨w.heap.size,0,none⟩=some (.int .i64 7)∧W.cell? ⟨w.heap.size,7,none⟩=some (.slice ab nb cb)):=Lib.hid fun W hW=>⟨Lib.hid hW,hW.cell (p:=⟨w.heap.size,0,none⟩) (fun e=>by have e2:w.heap.size=w.heap.size+1:=e;omega) (HBV.out.2 0 (by omega)).1,hW.cell (p:=⟨w.heap.size,7,none⟩) (fun e=>by have e2:w.heap.size=w.heap.size+1:=e;omega) (HBV.out.2 7 (by omega)).1⟩
 have HT1:=Lib.hid hT
 have hz2:w.heap.size+2≤wa.heap.size:=hTB.1.1
 clear hS hTB hBV hT
 go_enter Tryz.func37,Tryz.ntmps37
 go_upto_region 28 with fail
 rw [← hwa]
 clear hwa
 have hx0:Chg (fun k=>k=w.heap.size+1) wa wa:=Chg.refl _ _
 obtain ⟨-,f0,f7⟩:=HKS.out wa hx0
 have hbw:Below wa.heap.size wa wa:=Below.refl _ _
 go_region_held3 (fun W=>Hid (Chg (fun k=>k=w.heap.size+1) wa W)∧W.cell? ⟨w.heap.size,0,none⟩=some (.int .i64 7)∧W.cell? ⟨w.heap.size,7,none⟩=some (.slice ab nb cb)) (first|((with_reducible refine HKS.out _ ?_);(repeat' (first|with_reducible assumption|with_reducible refine Chg.set2 ?_ (by exact rfl) _ _|with_reducible apply Chg.drew|with_reducible exact Chg.refl _ _));done)|fail)
  ((first
   | (go_at_call 62;(with_reducible refine (HC.out _).mono ?_);rintro e w5 ⟨rfl,hb⟩;have hx5:=below_then3' (a:=wa) (by (repeat' (first|with_reducible assumption|with_reducible refine Below.drew ?_|with_reducible exact Below.refl _ _))) hb;have hs5:=hx5.size;have hz5:Chg (fun k=>k=w.heap.size+1) wa w5:=Chg.of_below hx5;have HB5:=Lib.hid (HTB.out.2.trans (hx5.mono HTB.out.2.size));have HIT:=Lib.hid (show RdIt (fun k=>S0 k∨w.heap.size+2≤k) w5 _ _ from rdit_data (bs:=bs) ⟨(HR.out.keep (KeepS.below HB5.out)).1,fun h p hp=>.inl (HR.out.2 h p hp)⟩ HO.out);have HE:=Lib.hid (err_data bs);have HW:=Lib.hid (show 9+(dataI bs).zt+5≤18 * t.wt by rw [zt_data];have:=HV.out;omega);clear hb)
   | (go_at_call 60;(with_reducible refine (HT.out _ _ _ _ _ _ _ _ _ _).mono ?_);rintro e w6 ⟨g6,rfl,hg6,hc6,hb6⟩;have hx6:=below_then3' (a:=wa) (by (repeat' (first|with_reducible assumption|with_reducible refine Below.drew ?_|with_reducible exact Below.refl _ _))) hb6;have hz6:Chg (fun k=>k=w.heap.size+1) wa w6:=Chg.of_below hx6;have HB6:=Lib.hid (HTB.out.2.trans (hx6.mono HTB.out.2.size));have HX6:=Lib.hid (HTB.out.1.keep hx6);have HI6:=Lib.hid (HIT.out.below (below_then3' (by (repeat' (first|with_reducible assumption|with_reducible refine Below.drew ?_|with_reducible exact Below.refl _ _))) hb6));have HG6:Hid (w.heap.size+2≤g6):=Lib.hid (by first|omega|(simp at hg6;omega));have HC6:=Lib.hid hc6;obtain ⟨p0,p1,p2,p3,p4,r0,r1,r2,r3,r4,r5⟩:=HX6.out.zs;clear hg6 hc6 hb6)
   | fail))
 go_wp2_with fail
 refine bodyPost_ret (v:=.agg (itCells 7 T none 0 0 ⟨#[]⟩ (some ⟨g6,0,none⟩) 1 1)) (by simp [results,Tryz.results37,go_sem, *]) rfl ?_
 have HR6:=rdit_tag 7 (by omega) HI6.out (.inr HG6.out) HC6.out
 rw [← HT1.out] at HR6
 refine it_fin HS.out HR6 (err_tag _ _ HE.out) (by rw [zt_tag];exact HW.out) HB6.out ?_
 iterate 5 (refine Chg.set2 ?_ (by exact rfl) _ _)
 exact Chg.refl _ _
set_option maxRecDepth 100000 in
set_option maxHeartbeats 4000000 in
theorem item_9 (S0:Nat→Prop) (t:T) (w:World) (hS:∀ k,S0 k→k < w.heap.size) (bits hi lo:Nat) (text more:ByteArray) (sub:Int) (ab:Option Addr) (nb cb:Nat) (ak:Option Addr) (nk ck:Nat) (h2:2≤t.wt):Calls Tryz.prog 37 #[.agg (valCells 9 bits hi lo text more sub ab nb cb ak nk ck)] w (ItOut S0 t w):=by
 have hTB:=two_boxes w (valCells 9 bits hi lo text more sub ab nb cb ak nk ck)
 obtain ⟨wa,hwa⟩:∃ W,W=((w.alloc (.cells (valCells 9 bits hi lo text more sub ab nb cb ak nk ck) 26)).alloc (.cells #[.int .i64 0,.int .u64 0,.slice none 0 0,.string ⟨#[]⟩,.slice none 0 0] 39)):=⟨_,rfl⟩
 have hTB:BoxI wa (w.heap.size+1) z5∧Below w.heap.size w wa:=by rw [hwa];exact hTB
 have hBV:BoxV wa w.heap.size (valCells 9 bits hi lo text more sub ab nb cb ak nk ck):=by rw [hwa];exact (BoxV.new w _ _).keep ((Below.refl _ _).alloc (Nat.le_refl _) _)
 have HTB:=Lib.hid hTB
 have HBV:=Lib.hid hBV
 have HS:=Lib.hid hS
 have HV:=Lib.hid h2
 clear h2
 have HC:=Lib.hid (fun v W=>integer28_calls v W)
 obtain ⟨T,hT⟩:∃ T:Nat,T=1000+9:=⟨_,rfl⟩
 have HT:Hid (∀ (k':Int) (n':Nat) (ab':Option Addr) (nb' cb':Nat) (tx':ByteArray) (ak':Option Addr) (nk' ck':Nat) (W:World),Calls Tryz.prog 60 #[.int .i64 9,.agg (itCells k' n' ab' nb' cb' tx' ak' nk' ck')] W (TagO T (itCells k' n' ab' nb' cb' tx' ak' nk' ck') W)):=Lib.hid fun k' n' ab' nb' cb' tx' ak' nk' ck' W=>by rw [hT];exact tag28_calls 9 (by omega) k' n' ab' nb' cb' tx' ak' nk' ck' W
 have HKS:Hid (∀ W,Chg (fun k=>k=w.heap.size+1) wa W→Hid (Chg (fun k=>k=w.heap.size+1) wa W)∧W.cell? ⟨w.heap.size,0,none⟩=some (.int .i64 9)∧W.cell? ⟨w.heap.size,1,none⟩=some (.int .u64 (bits:Nat))):=Lib.hid fun W hW=>⟨Lib.hid hW,hW.cell (p:=⟨w.heap.size,0,none⟩) (fun e=>by have e2:w.heap.size=w.heap.size+1:=e;omega) (HBV.out.2 0 (by omega)).1,hW.cell (p:=⟨w.heap.size,1,none⟩) (fun e=>by have e2:w.heap.size=w.heap.size+1:=e;omega) (HBV.out.2 1 (by omega)).1⟩
 have HT1:=Lib.hid hT
 have hz2:w.heap.size+2≤wa.heap.size:=hTB.1.1
 clear hS hTB hBV hT
 go_enter Tryz.func37,Tryz.ntmps37
 go_upto_region 31 with fail
 rw [← hwa]
 clear hwa
 have hx0:Chg (fun k=>k=w.heap.size+1) wa wa:=Chg.refl _ _
 obtain ⟨-,f0,f1⟩:=HKS.out wa hx0
 have hbw:Below wa.heap.size wa wa:=Below.refl _ _
 go_region_held3 (fun W=>Hid (Chg (fun k=>k=w.heap.size+1) wa W)∧W.cell? ⟨w.heap.size,0,none⟩=some (.int .i64 9)∧W.cell? ⟨w.heap.size,1,none⟩=some (.int .u64 (bits:Nat))) (first|((with_reducible refine HKS.out _ ?_);(repeat' (first|with_reducible assumption|with_reducible refine Chg.set2 ?_ (by exact rfl) _ _|with_reducible apply Chg.drew|with_reducible exact Chg.refl _ _));done)|fail)
  ((first
   | (go_at_call 63;(with_reducible refine (HC.out _ _).mono ?_);rintro e w5 ⟨ki,ni,rfl,hk,hni,hb⟩;have hx5:=below_then3' (a:=wa) (by (repeat' (first|with_reducible assumption|with_reducible refine Below.drew ?_|with_reducible exact Below.refl _ _))) hb;have hs5:=hx5.size;have hz5:Chg (fun k=>k=w.heap.size+1) wa w5:=Chg.of_below hx5;have HB5:=Lib.hid (HTB.out.2.trans (hx5.mono HTB.out.2.size));have HIT:=Lib.hid (show RdIt (fun k=>S0 k∨w.heap.size+2≤k) w5 _ _ from rdit_num ki ni (by omega) (by unfold okSize;omega));have HE:=Lib.hid (err_nu ki ni (by omega));have HW:=Lib.hid (show 9+(nuI ki ni).zt+5≤18 * t.wt by have:=zt_nu ki ni;have:=HV.out;omega);clear hb)
   | (go_at_call 60;(with_reducible refine (HT.out _ _ _ _ _ _ _ _ _ _).mono ?_);rintro e w6 ⟨g6,rfl,hg6,hc6,hb6⟩;have hx6:=below_then3' (a:=wa) (by (repeat' (first|with_reducible assumption|with_reducible refine Below.drew ?_|with_reducible exact Below.refl _ _))) hb6;have hz6:Chg (fun k=>k=w.heap.size+1) wa w6:=Chg.of_below hx6;have HB6:=Lib.hid (HTB.out.2.trans (hx6.mono HTB.out.2.size));have HX6:=Lib.hid (HTB.out.1.keep hx6);have HI6:=Lib.hid (HIT.out.below (below_then3' (by (repeat' (first|with_reducible assumption|with_reducible refine Below.drew ?_|with_reducible exact Below.refl _ _))) hb6));have HG6:Hid (w.heap.size+2≤g6):=Lib.hid (by first|omega|(simp at hg6;omega));have HC6:=Lib.hid hc6;obtain ⟨p0,p1,p2,p3,p4,r0,r1,r2,r3,r4,r5⟩:=HX6.out.zs;clear hg6 hc6 hb6)
   | fail))
 go_wp2_with fail
 refine bodyPost_ret (v:=.agg (itCells 7 T none 0 0 ⟨#[]⟩ (some ⟨g6,0,none⟩) 1 1)) (by simp [results,Tryz.results37,go_sem, *]) rfl ?_
 have HR6:=rdit_tag 9 (by omega) HI6.out (.inr HG6.out) HC6.out
 rw [← HT1.out] at HR6
 refine it_fin HS.out HR6 (err_tag _ _ HE.out) (by rw [zt_tag];exact HW.out) HB6.out ?_
 iterate 5 (refine Chg.set2 ?_ (by exact rfl) _ _)
 exact Chg.refl _ _
set_option maxRecDepth 100000 in
set_option maxHeartbeats 4000000 in
theorem item_18 (S0:Nat→Prop) (t:T) (w:World) (hS:∀ k,S0 k→k < w.heap.size) (bits hi lo:Nat) (text more:ByteArray) (sub:Int) (ab:Option Addr) (nb cb:Nat) (ak:Option Addr) (nk ck:Nat) (h2:2≤t.wt):Calls Tryz.prog 37 #[.agg (valCells 18 bits hi lo text more sub ab nb cb ak nk ck)] w (ItOut S0 t w):=by
 have hTB:=two_boxes w (valCells 18 bits hi lo text more sub ab nb cb ak nk ck)
 obtain ⟨wa,hwa⟩:∃ W,W=((w.alloc (.cells (valCells 18 bits hi lo text more sub ab nb cb ak nk ck) 26)).alloc (.cells #[.int .i64 0,.int .u64 0,.slice none 0 0,.string ⟨#[]⟩,.slice none 0 0] 39)):=⟨_,rfl⟩
 have hTB:BoxI wa (w.heap.size+1) z5∧Below w.heap.size w wa:=by rw [hwa];exact hTB
 have hBV:BoxV wa w.heap.size (valCells 18 bits hi lo text more sub ab nb cb ak nk ck):=by rw [hwa];exact (BoxV.new w _ _).keep ((Below.refl _ _).alloc (Nat.le_refl _) _)
 have HTB:=Lib.hid hTB
 have HBV:=Lib.hid hBV
 have HS:=Lib.hid hS
 have HV:=Lib.hid h2
 clear h2
 have HC:=Lib.hid (fun v W=>integer28_calls v W)
 obtain ⟨T,hT⟩:∃ T:Nat,T=1000+18:=⟨_,rfl⟩
 have HT:Hid (∀ (k':Int) (n':Nat) (ab':Option Addr) (nb' cb':Nat) (tx':ByteArray) (ak':Option Addr) (nk' ck':Nat) (W:World),Calls Tryz.prog 60 #[.int .i64 18,.agg (itCells k' n' ab' nb' cb' tx' ak' nk' ck')] W (TagO T (itCells k' n' ab' nb' cb' tx' ak' nk' ck') W)):=Lib.hid fun k' n' ab' nb' cb' tx' ak' nk' ck' W=>by rw [hT];exact tag28_calls 18 (by omega) k' n' ab' nb' cb' tx' ak' nk' ck' W
 have HKS:Hid (∀ W,Chg (fun k=>k=w.heap.size+1) wa W→Hid (Chg (fun k=>k=w.heap.size+1) wa W)∧W.cell? ⟨w.heap.size,0,none⟩=some (.int .i64 18)∧W.cell? ⟨w.heap.size,1,none⟩=some (.int .u64 (bits:Nat))):=Lib.hid fun W hW=>⟨Lib.hid hW,hW.cell (p:=⟨w.heap.size,0,none⟩) (fun e=>by have e2:w.heap.size=w.heap.size+1:=e;omega) (HBV.out.2 0 (by omega)).1,hW.cell (p:=⟨w.heap.size,1,none⟩) (fun e=>by have e2:w.heap.size=w.heap.size+1:=e;omega) (HBV.out.2 1 (by omega)).1⟩
 have HT1:=Lib.hid hT
 have hz2:w.heap.size+2≤wa.heap.size:=hTB.1.1
 clear hS hTB hBV hT
 go_enter Tryz.func37,Tryz.ntmps37
 go_upto_region 31 with fail
 rw [← hwa]
 clear hwa
 have hx0:Chg (fun k=>k=w.heap.size+1) wa wa:=Chg.refl _ _
 obtain ⟨-,f0,f1⟩:=HKS.out wa hx0
 have hbw:Below wa.heap.size wa wa:=Below.refl _ _
 go_region_held3 (fun W=>Hid (Chg (fun k=>k=w.heap.size+1) wa W)∧W.cell? ⟨w.heap.size,0,none⟩=some (.int .i64 18)∧W.cell? ⟨w.heap.size,1,none⟩=some (.int .u64 (bits:Nat))) (first|((with_reducible refine HKS.out _ ?_);(repeat' (first|with_reducible assumption|with_reducible refine Chg.set2 ?_ (by exact rfl) _ _|with_reducible apply Chg.drew|with_reducible exact Chg.refl _ _));done)|fail)
  ((first
   | (go_at_call 63;(with_reducible refine (HC.out _ _).mono ?_);rintro e w5 ⟨ki,ni,rfl,hk,hni,hb⟩;have hx5:=below_then3' (a:=wa) (by (repeat' (first|with_reducible assumption|with_reducible refine Below.drew ?_|with_reducible exact Below.refl _ _))) hb;have hs5:=hx5.size;have hz5:Chg (fun k=>k=w.heap.size+1) wa w5:=Chg.of_below hx5;have HB5:=Lib.hid (HTB.out.2.trans (hx5.mono HTB.out.2.size));have HIT:=Lib.hid (show RdIt (fun k=>S0 k∨w.heap.size+2≤k) w5 _ _ from rdit_num ki ni (by omega) (by unfold okSize;omega));have HE:=Lib.hid (err_nu ki ni (by omega));have HW:=Lib.hid (show 9+(nuI ki ni).zt+5≤18 * t.wt by have:=zt_nu ki ni;have:=HV.out;omega);clear hb)
   | (go_at_call 60;(with_reducible refine (HT.out _ _ _ _ _ _ _ _ _ _).mono ?_);rintro e w6 ⟨g6,rfl,hg6,hc6,hb6⟩;have hx6:=below_then3' (a:=wa) (by (repeat' (first|with_reducible assumption|with_reducible refine Below.drew ?_|with_reducible exact Below.refl _ _))) hb6;have hz6:Chg (fun k=>k=w.heap.size+1) wa w6:=Chg.of_below hx6;have HB6:=Lib.hid (HTB.out.2.trans (hx6.mono HTB.out.2.size));have HX6:=Lib.hid (HTB.out.1.keep hx6);have HI6:=Lib.hid (HIT.out.below (below_then3' (by (repeat' (first|with_reducible assumption|with_reducible refine Below.drew ?_|with_reducible exact Below.refl _ _))) hb6));have HG6:Hid (w.heap.size+2≤g6):=Lib.hid (by first|omega|(simp at hg6;omega));have HC6:=Lib.hid hc6;obtain ⟨p0,p1,p2,p3,p4,r0,r1,r2,r3,r4,r5⟩:=HX6.out.zs;clear hg6 hc6 hb6)
   | fail))
 go_wp2_with fail
 refine bodyPost_ret (v:=.agg (itCells 7 T none 0 0 ⟨#[]⟩ (some ⟨g6,0,none⟩) 1 1)) (by simp [results,Tryz.results37,go_sem, *]) rfl ?_
 have HR6:=rdit_tag 18 (by omega) HI6.out (.inr HG6.out) HC6.out
 rw [← HT1.out] at HR6
 refine it_fin HS.out HR6 (err_tag _ _ HE.out) (by rw [zt_tag];exact HW.out) HB6.out ?_
 iterate 5 (refine Chg.set2 ?_ (by exact rfl) _ _)
 exact Chg.refl _ _
set_option maxRecDepth 100000 in
set_option maxHeartbeats 4000000 in
theorem item_13 (S0:Nat→Prop) (t:T) (w:World) (hS:∀ k,S0 k→k < w.heap.size) (bits hi lo:Nat) (text more:ByteArray) (sub:Int) (ab:Option Addr) (nb cb:Nat) (ak:Option Addr) (nk ck:Nat) (hn:text.size≤9223372036854775807) (hw:text.size+2≤t.wt) (ht:(wholeTo (sl text) == text.size)=true):Calls Tryz.prog 37 #[.agg (valCells 13 bits hi lo text more sub ab nb cb ak nk ck)] w (ItOut S0 t w):=by
 have hTB:=two_boxes w (valCells 13 bits hi lo text more sub ab nb cb ak nk ck)
 obtain ⟨wa,hwa⟩:∃ W,W=((w.alloc (.cells (valCells 13 bits hi lo text more sub ab nb cb ak nk ck) 26)).alloc (.cells #[.int .i64 0,.int .u64 0,.slice none 0 0,.string ⟨#[]⟩,.slice none 0 0] 39)):=⟨_,rfl⟩
 have hTB:BoxI wa (w.heap.size+1) z5∧Below w.heap.size w wa:=by rw [hwa];exact hTB
 have hBV:BoxV wa w.heap.size (valCells 13 bits hi lo text more sub ab nb cb ak nk ck):=by rw [hwa];exact (BoxV.new w _ _).keep ((Below.refl _ _).alloc (Nat.le_refl _) _)
 have HTB:=Lib.hid hTB
 have HBV:=Lib.hid hBV
 have HS:=Lib.hid hS
 have HN:=Lib.hid hn
 have HT9:=Lib.hid ht
 have HV:=Lib.hid hw
 clear hn ht hw
 have HC:=Lib.hid (fun W=>text28_calls text W)
 obtain ⟨T,hT⟩:∃ T:Nat,T=1000+13:=⟨_,rfl⟩
 have HT:Hid (∀ (k':Int) (n':Nat) (ab':Option Addr) (nb' cb':Nat) (tx':ByteArray) (ak':Option Addr) (nk' ck':Nat) (W:World),Calls Tryz.prog 60 #[.int .i64 13,.agg (itCells k' n' ab' nb' cb' tx' ak' nk' ck')] W (TagO T (itCells k' n' ab' nb' cb' tx' ak' nk' ck') W)):=Lib.hid fun k' n' ab' nb' cb' tx' ak' nk' ck' W=>by rw [hT];exact tag28_calls 13 (by omega) k' n' ab' nb' cb' tx' ak' nk' ck' W
 have HKS:Hid (∀ W,Chg (fun k=>k=w.heap.size+1) wa W→Hid (Chg (fun k=>k=w.heap.size+1) wa W)∧W.cell? ⟨w.heap.size,0,none⟩=some (.int .i64 13)∧W.cell? ⟨w.heap.size,4,none⟩=some (.string text)):=Lib.hid fun W hW=>⟨Lib.hid hW,hW.cell (p:=⟨w.heap.size,0,none⟩) (fun e=>by have e2:w.heap.size=w.heap.size+1:=e;omega) (HBV.out.2 0 (by omega)).1,hW.cell (p:=⟨w.heap.size,4,none⟩) (fun e=>by have e2:w.heap.size=w.heap.size+1:=e;omega) (HBV.out.2 4 (by omega)).1⟩
 have HT1:=Lib.hid hT
 have hz2:w.heap.size+2≤wa.heap.size:=hTB.1.1
 clear hS hTB hBV hT
 go_enter Tryz.func37,Tryz.ntmps37
 go_upto_region 38 with fail
 rw [← hwa]
 clear hwa
 have hx0:Chg (fun k=>k=w.heap.size+1) wa wa:=Chg.refl _ _
 obtain ⟨-,f0,f4⟩:=HKS.out wa hx0
 have hbw:Below wa.heap.size wa wa:=Below.refl _ _
 go_region_held3 (fun W=>Hid (Chg (fun k=>k=w.heap.size+1) wa W)∧W.cell? ⟨w.heap.size,0,none⟩=some (.int .i64 13)∧W.cell? ⟨w.heap.size,4,none⟩=some (.string text)) (first|((with_reducible refine HKS.out _ ?_);(repeat' (first|with_reducible assumption|with_reducible refine Chg.set2 ?_ (by exact rfl) _ _|with_reducible apply Chg.drew|with_reducible exact Chg.refl _ _));done)|fail)
  ((first
   | (go_at_call 36;(with_reducible refine (HC.out _).mono ?_);rintro e w5 ⟨rfl,hb⟩;have hx5:=below_then3' (a:=wa) (by (repeat' (first|with_reducible assumption|with_reducible refine Below.drew ?_|with_reducible exact Below.refl _ _))) hb;have hs5:=hx5.size;have hz5:Chg (fun k=>k=w.heap.size+1) wa w5:=Chg.of_below hx5;have HB5:=Lib.hid (HTB.out.2.trans (hx5.mono HTB.out.2.size));have HIT:=Lib.hid (show RdIt (fun k=>S0 k∨w.heap.size+2≤k) w5 _ _ from RdIt_txt HN.out);have HE:=Lib.hid (err_txt text HT9.out);have HW:=Lib.hid (show 9+(txtI text).zt+5≤18 * t.wt by rw [zt_txt];have:=HV.out;omega);clear hb)
   | (go_at_call 60;(with_reducible refine (HT.out _ _ _ _ _ _ _ _ _ _).mono ?_);rintro e w6 ⟨g6,rfl,hg6,hc6,hb6⟩;have hx6:=below_then3' (a:=wa) (by (repeat' (first|with_reducible assumption|with_reducible refine Below.drew ?_|with_reducible exact Below.refl _ _))) hb6;have hz6:Chg (fun k=>k=w.heap.size+1) wa w6:=Chg.of_below hx6;have HB6:=Lib.hid (HTB.out.2.trans (hx6.mono HTB.out.2.size));have HX6:=Lib.hid (HTB.out.1.keep hx6);have HI6:=Lib.hid (HIT.out.below (below_then3' (by (repeat' (first|with_reducible assumption|with_reducible refine Below.drew ?_|with_reducible exact Below.refl _ _))) hb6));have HG6:Hid (w.heap.size+2≤g6):=Lib.hid (by first|omega|(simp at hg6;omega));have HC6:=Lib.hid hc6;obtain ⟨p0,p1,p2,p3,p4,r0,r1,r2,r3,r4,r5⟩:=HX6.out.zs;clear hg6 hc6 hb6)
   | fail))
 go_wp2_with fail
 refine bodyPost_ret (v:=.agg (itCells 7 T none 0 0 ⟨#[]⟩ (some ⟨g6,0,none⟩) 1 1)) (by simp [results,Tryz.results37,go_sem, *]) rfl ?_
 have HR6:=rdit_tag 13 (by omega) HI6.out (.inr HG6.out) HC6.out
 rw [← HT1.out] at HR6
 refine it_fin HS.out HR6 (err_tag _ _ HE.out) (by rw [zt_tag];exact HW.out) HB6.out ?_
 iterate 5 (refine Chg.set2 ?_ (by exact rfl) _ _)
 exact Chg.refl _ _
set_option maxRecDepth 100000 in
set_option maxHeartbeats 4000000 in
theorem item_14 (S0:Nat→Prop) (t:T) (w:World) (hS:∀ k,S0 k→k < w.heap.size) (bits hi lo:Nat) (text more:ByteArray) (sub:Int) (ab:Option Addr) (nb cb:Nat) (ak:Option Addr) (nk ck:Nat) (hn:text.size≤9223372036854775807) (hw:text.size+2≤t.wt) (ht:(wholeTo (sl text) == text.size)=true):Calls Tryz.prog 37 #[.agg (valCells 14 bits hi lo text more sub ab nb cb ak nk ck)] w (ItOut S0 t w):=by
 have hTB:=two_boxes w (valCells 14 bits hi lo text more sub ab nb cb ak nk ck)
 obtain ⟨wa,hwa⟩:∃ W,W=((w.alloc (.cells (valCells 14 bits hi lo text more sub ab nb cb ak nk ck) 26)).alloc (.cells #[.int .i64 0,.int .u64 0,.slice none 0 0,.string ⟨#[]⟩,.slice none 0 0] 39)):=⟨_,rfl⟩
 have hTB:BoxI wa (w.heap.size+1) z5∧Below w.heap.size w wa:=by rw [hwa];exact hTB
 have hBV:BoxV wa w.heap.size (valCells 14 bits hi lo text more sub ab nb cb ak nk ck):=by rw [hwa];exact (BoxV.new w _ _).keep ((Below.refl _ _).alloc (Nat.le_refl _) _)
 have HTB:=Lib.hid hTB
 have HBV:=Lib.hid hBV
 have HS:=Lib.hid hS
 have HN:=Lib.hid hn
 have HT9:=Lib.hid ht
 have HV:=Lib.hid hw
 clear hn ht hw
 have HC:=Lib.hid (fun W=>text28_calls text W)
 obtain ⟨T,hT⟩:∃ T:Nat,T=1000+14:=⟨_,rfl⟩
 have HT:Hid (∀ (k':Int) (n':Nat) (ab':Option Addr) (nb' cb':Nat) (tx':ByteArray) (ak':Option Addr) (nk' ck':Nat) (W:World),Calls Tryz.prog 60 #[.int .i64 14,.agg (itCells k' n' ab' nb' cb' tx' ak' nk' ck')] W (TagO T (itCells k' n' ab' nb' cb' tx' ak' nk' ck') W)):=Lib.hid fun k' n' ab' nb' cb' tx' ak' nk' ck' W=>by rw [hT];exact tag28_calls 14 (by omega) k' n' ab' nb' cb' tx' ak' nk' ck' W
 have HKS:Hid (∀ W,Chg (fun k=>k=w.heap.size+1) wa W→Hid (Chg (fun k=>k=w.heap.size+1) wa W)∧W.cell? ⟨w.heap.size,0,none⟩=some (.int .i64 14)∧W.cell? ⟨w.heap.size,4,none⟩=some (.string text)):=Lib.hid fun W hW=>⟨Lib.hid hW,hW.cell (p:=⟨w.heap.size,0,none⟩) (fun e=>by have e2:w.heap.size=w.heap.size+1:=e;omega) (HBV.out.2 0 (by omega)).1,hW.cell (p:=⟨w.heap.size,4,none⟩) (fun e=>by have e2:w.heap.size=w.heap.size+1:=e;omega) (HBV.out.2 4 (by omega)).1⟩
 have HT1:=Lib.hid hT
 have hz2:w.heap.size+2≤wa.heap.size:=hTB.1.1
 clear hS hTB hBV hT
 go_enter Tryz.func37,Tryz.ntmps37
 go_upto_region 38 with fail
 rw [← hwa]
 clear hwa
 have hx0:Chg (fun k=>k=w.heap.size+1) wa wa:=Chg.refl _ _
 obtain ⟨-,f0,f4⟩:=HKS.out wa hx0
 have hbw:Below wa.heap.size wa wa:=Below.refl _ _
 go_region_held3 (fun W=>Hid (Chg (fun k=>k=w.heap.size+1) wa W)∧W.cell? ⟨w.heap.size,0,none⟩=some (.int .i64 14)∧W.cell? ⟨w.heap.size,4,none⟩=some (.string text)) (first|((with_reducible refine HKS.out _ ?_);(repeat' (first|with_reducible assumption|with_reducible refine Chg.set2 ?_ (by exact rfl) _ _|with_reducible apply Chg.drew|with_reducible exact Chg.refl _ _));done)|fail)
  ((first
   | (go_at_call 36;(with_reducible refine (HC.out _).mono ?_);rintro e w5 ⟨rfl,hb⟩;have hx5:=below_then3' (a:=wa) (by (repeat' (first|with_reducible assumption|with_reducible refine Below.drew ?_|with_reducible exact Below.refl _ _))) hb;have hs5:=hx5.size;have hz5:Chg (fun k=>k=w.heap.size+1) wa w5:=Chg.of_below hx5;have HB5:=Lib.hid (HTB.out.2.trans (hx5.mono HTB.out.2.size));have HIT:=Lib.hid (show RdIt (fun k=>S0 k∨w.heap.size+2≤k) w5 _ _ from RdIt_txt HN.out);have HE:=Lib.hid (err_txt text HT9.out);have HW:=Lib.hid (show 9+(txtI text).zt+5≤18 * t.wt by rw [zt_txt];have:=HV.out;omega);clear hb)
   | (go_at_call 60;(with_reducible refine (HT.out _ _ _ _ _ _ _ _ _ _).mono ?_);rintro e w6 ⟨g6,rfl,hg6,hc6,hb6⟩;have hx6:=below_then3' (a:=wa) (by (repeat' (first|with_reducible assumption|with_reducible refine Below.drew ?_|with_reducible exact Below.refl _ _))) hb6;have hz6:Chg (fun k=>k=w.heap.size+1) wa w6:=Chg.of_below hx6;have HB6:=Lib.hid (HTB.out.2.trans (hx6.mono HTB.out.2.size));have HX6:=Lib.hid (HTB.out.1.keep hx6);have HI6:=Lib.hid (HIT.out.below (below_then3' (by (repeat' (first|with_reducible assumption|with_reducible refine Below.drew ?_|with_reducible exact Below.refl _ _))) hb6));have HG6:Hid (w.heap.size+2≤g6):=Lib.hid (by first|omega|(simp at hg6;omega));have HC6:=Lib.hid hc6;obtain ⟨p0,p1,p2,p3,p4,r0,r1,r2,r3,r4,r5⟩:=HX6.out.zs;clear hg6 hc6 hb6)
   | fail))
 go_wp2_with fail
 refine bodyPost_ret (v:=.agg (itCells 7 T none 0 0 ⟨#[]⟩ (some ⟨g6,0,none⟩) 1 1)) (by simp [results,Tryz.results37,go_sem, *]) rfl ?_
 have HR6:=rdit_tag 14 (by omega) HI6.out (.inr HG6.out) HC6.out
 rw [← HT1.out] at HR6
 refine it_fin HS.out HR6 (err_tag _ _ HE.out) (by rw [zt_tag];exact HW.out) HB6.out ?_
 iterate 5 (refine Chg.set2 ?_ (by exact rfl) _ _)
 exact Chg.refl _ _
theorem tag_num {S0:Nat→Prop} {w w1:World} {g6 T:Nat} {k:Int} {n:Nat} (K:Nat) (hT:T=1000+K) (hK:K≤1000000) (hk:-9223372036854775808≤k∧k≤9223372036854775807) (hn:n < okSize) (hg:w.heap.size+2≤g6)
  (hc:∀ j u,(itCells k n none 0 0 ⟨#[]⟩ none 0 0).toList[j]?=some u→w1.cell? ⟨g6,j,none⟩=some u):RdIt (fun k=>S0 k∨w.heap.size+2≤k) w1 (tagI (K:Nat) (nuI k n)) (itCells 7 T none 0 0 ⟨#[]⟩ (some ⟨g6,0,none⟩) 1 1):=by
 subst hT
 exact rdit_tag K hK (rdit_num k n hk hn) (.inr hg) hc
set_option maxRecDepth 100000 in
set_option maxHeartbeats 4000000 in
theorem item_17 (S0:Nat→Prop) (t:T) (w:World) (hS:∀ k,S0 k→k < w.heap.size) (bits hi lo:Nat) (text more:ByteArray) (sub:Int) (ab:Option Addr) (nb cb:Nat) (ak:Option Addr) (nk ck:Nat) (h2:2≤t.wt) (hb:bits < okSize):Calls Tryz.prog 37 #[.agg (valCells 17 bits hi lo text more sub ab nb cb ak nk ck)] w (ItOut S0 t w):=by
 have HTB:=Lib.hid (two_boxes w (valCells 17 bits hi lo text more sub ab nb cb ak nk ck))
 have HS:=Lib.hid hS
 have HBI:=Lib.hid hb
 clear hb
 have HV:=Lib.hid h2
 obtain ⟨T,hT⟩:∃ T:Nat,T=1000+17:=⟨_,rfl⟩
 have HT:∀ W,Calls Tryz.prog 60 #[.int .i64 17,.agg (itCells 1 bits none 0 0 ⟨#[]⟩ none 0 0)] W (TagO T (itCells 1 bits none 0 0 ⟨#[]⟩ none 0 0) W):=fun W=>by rw [hT];exact tag28_calls 17 (by omega) 1 bits none 0 0 ⟨#[]⟩ none 0 0 W
 have HT1:=Lib.hid hT
 clear h2 hT
 have HC:=Lib.hid (HT)
 clear hS HT
 go_enter Tryz.func37,Tryz.ntmps37
 go_wp2_with (go_at_call 60;(with_reducible refine (HC.out _).mono ?_);rintro e w1 ⟨g6,rfl,hg6,hc6,hb⟩;have HG6:Hid (w.heap.size+2≤g6):=Lib.hid (by first|omega|(simp at hg6;omega));clear hg6;have HB:=Lib.hid (HTB.out.2.trans (hb.mono HTB.out.2.size));have HX:=Lib.hid (HTB.out.1.keep hb);obtain ⟨p0,p1,p2,p3,p4,r0,r1,r2,r3,r4,r5⟩:=HX.out.zs;have HIT:=Lib.hid (show RdIt (fun k=>S0 k∨w.heap.size+2≤k) w1 _ _ from tag_num (S0:=S0) (w:=w) (w1:=w1) (g6:=g6) (T:=T) (k:=1) (n:=bits) 17 HT1.out (by omega) (by omega) HBI.out HG6.out hc6);have HE:=Lib.hid (show errI (tagI (17:Nat) (nuI 1 bits))=0 from err_tag _ _ (err_n1 bits));have HW:=Lib.hid (show (tagI (17:Nat) (nuI 1 bits)).zt+5≤18 * t.wt by rw [zt_tag];have:=zt_nu 1 bits;have:=HV.out;omega);clear hb)
 refine bodyPost_ret (v:=.agg (itCells 7 T none 0 0 ⟨#[]⟩ (some ⟨g6,0,none⟩) 1 1)) (by simp [results,Tryz.results37,go_sem, *]) rfl ?_
 refine it_fin HS.out HIT.out HE.out HW.out HB.out ?_
 iterate 5 (refine Chg.set2 ?_ (by exact rfl) _ _)
 exact Chg.refl _ _
set_option maxRecDepth 100000 in
set_option maxHeartbeats 4000000 in
theorem item_127 (S0:Nat→Prop) (t:T) (w:World) (hS:∀ k,S0 k→k < w.heap.size) (bits hi lo:Nat) (text more:ByteArray) (sub:Int) (ab:Option Addr) (nb cb:Nat) (ak:Option Addr) (nk ck:Nat) (h2:2≤t.wt):Calls Tryz.prog 37 #[.agg (valCells 127 bits hi lo text more sub ab nb cb ak nk ck)] w (ItOut S0 t w):=by
 have HTB:=Lib.hid (two_boxes w (valCells 127 bits hi lo text more sub ab nb cb ak nk ck))
 have HS:=Lib.hid hS
 have HV:=Lib.hid h2
 obtain ⟨T,hT⟩:∃ T:Nat,T=1000+127:=⟨_,rfl⟩
 have HT:∀ W,Calls Tryz.prog 60 #[.int .i64 127,.agg #[.int .i64 8,.int .u64 22,.slice none 0 0,.string ⟨#[]⟩,.slice none 0 0]] W (TagO T (itCells 8 22 none 0 0 ⟨#[]⟩ none 0 0) W):=fun W=>by rw [hT];exact tag28_calls 127 (by omega) 8 22 none 0 0 ⟨#[]⟩ none 0 0 W
 have HT1:=Lib.hid hT
 clear h2 hT
 have HC:=Lib.hid (HT)
 clear hS HT
 go_enter Tryz.func37,Tryz.ntmps37
 go_wp2_with (go_at_call 60;(with_reducible refine (HC.out _).mono ?_);rintro e w1 ⟨g6,rfl,hg6,hc6,hb⟩;have HG6:Hid (w.heap.size+2≤g6):=Lib.hid (by first|omega|(simp at hg6;omega));clear hg6;have HB:=Lib.hid (HTB.out.2.trans (hb.mono HTB.out.2.size));have HX:=Lib.hid (HTB.out.1.keep hb);obtain ⟨p0,p1,p2,p3,p4,r0,r1,r2,r3,r4,r5⟩:=HX.out.zs;have HIT:=Lib.hid (show RdIt (fun k=>S0 k∨w.heap.size+2≤k) w1 _ _ from tag_num (S0:=S0) (w:=w) (w1:=w1) (g6:=g6) (T:=T) (k:=8) (n:=22) 127 HT1.out (by omega) (by omega) (by decide) HG6.out hc6);have HE:=Lib.hid (show errI (tagI (127:Nat) (nuI 8 22))=0 from err_tag _ _ err_22);have HW:=Lib.hid (show (tagI (127:Nat) (nuI 8 22)).zt+5≤18 * t.wt by rw [zt_tag];have:=zt_nu 8 22;have:=HV.out;omega);clear hb)
 refine bodyPost_ret (v:=.agg (itCells 7 T none 0 0 ⟨#[]⟩ (some ⟨g6,0,none⟩) 1 1)) (by simp [results,Tryz.results37,go_sem, *]) rfl ?_
 refine it_fin HS.out HIT.out HE.out HW.out HB.out ?_
 iterate 5 (refine Chg.set2 ?_ (by exact rfl) _ _)
 exact Chg.refl _ _
set_option maxRecDepth 100000 in
set_option maxHeartbeats 4000000 in
theorem item_255 (S0:Nat→Prop) (t:T) (w:World) (hS:∀ k,S0 k→k < w.heap.size) (bits hi lo:Nat) (text more:ByteArray) (sub:Int) (ab:Option Addr) (nb cb:Nat) (ak:Option Addr) (nk ck:Nat) (h2:2≤t.wt):Calls Tryz.prog 37 #[.agg (valCells 255 bits hi lo text more sub ab nb cb ak nk ck)] w (ItOut S0 t w):=by
 have HTB:=Lib.hid (two_boxes w (valCells 255 bits hi lo text more sub ab nb cb ak nk ck))
 have HS:=Lib.hid hS
 have HV:=Lib.hid h2
 obtain ⟨T,hT⟩:∃ T:Nat,T=1000+255:=⟨_,rfl⟩
 have HT:∀ W,Calls Tryz.prog 60 #[.int .i64 255,.agg #[.int .i64 8,.int .u64 22,.slice none 0 0,.string ⟨#[]⟩,.slice none 0 0]] W (TagO T (itCells 8 22 none 0 0 ⟨#[]⟩ none 0 0) W):=fun W=>by rw [hT];exact tag28_calls 255 (by omega) 8 22 none 0 0 ⟨#[]⟩ none 0 0 W
 have HT1:=Lib.hid hT
 clear h2 hT
 have HC:=Lib.hid (HT)
 clear hS HT
 go_enter Tryz.func37,Tryz.ntmps37
 go_wp2_with (go_at_call 60;(with_reducible refine (HC.out _).mono ?_);rintro e w1 ⟨g6,rfl,hg6,hc6,hb⟩;have HG6:Hid (w.heap.size+2≤g6):=Lib.hid (by first|omega|(simp at hg6;omega));clear hg6;have HB:=Lib.hid (HTB.out.2.trans (hb.mono HTB.out.2.size));have HX:=Lib.hid (HTB.out.1.keep hb);obtain ⟨p0,p1,p2,p3,p4,r0,r1,r2,r3,r4,r5⟩:=HX.out.zs;have HIT:=Lib.hid (show RdIt (fun k=>S0 k∨w.heap.size+2≤k) w1 _ _ from tag_num (S0:=S0) (w:=w) (w1:=w1) (g6:=g6) (T:=T) (k:=8) (n:=22) 255 HT1.out (by omega) (by omega) (by decide) HG6.out hc6);have HE:=Lib.hid (show errI (tagI (255:Nat) (nuI 8 22))=0 from err_tag _ _ err_22);have HW:=Lib.hid (show (tagI (255:Nat) (nuI 8 22)).zt+5≤18 * t.wt by rw [zt_tag];have:=zt_nu 8 22;have:=HV.out;omega);clear hb)
 refine bodyPost_ret (v:=.agg (itCells 7 T none 0 0 ⟨#[]⟩ (some ⟨g6,0,none⟩) 1 1)) (by simp [results,Tryz.results37,go_sem, *]) rfl ?_
 refine it_fin HS.out HIT.out HE.out HW.out HB.out ?_
 iterate 5 (refine Chg.set2 ?_ (by exact rfl) _ _)
 exact Chg.refl _ _
end Go.Proofs.YtmooaepbdmengaaGreatDoor
