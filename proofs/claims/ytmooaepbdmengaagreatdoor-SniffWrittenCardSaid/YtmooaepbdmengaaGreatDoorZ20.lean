/- Parts of the proof of SniffWritten: MtB. -/
import Derived.Test.YtmooaepbdmengaaGreatDoorZ18
import Derived.Deep.RegionLaw
namespace Go.Proofs.YtmooaepbdmengaaGreatDoor
open Go.RowKit
set_option linter.unusedVariables false
set_option linter.unusedSimpArgs false
set_option maxRecDepth 100000 in
set_option maxHeartbeats 8000000 in
theorem mapped29_calls (d:Nat) (hof:MtSaid d) (f:F) (S0:Nat→Prop) (w:World) (a:Option Addr) (nk ck:Nat) (hS:∀ k,S0 k→k < w.heap.size) (hk:RdKsS S0 w a 0 f) (hl:f.len=nk) (hw:f.wt≤d) (hd:d≤900000) (hok:OkF f) :
  Calls Tryz.prog 24 #[.slice a nk ck] w (MuOut S0 f w):=by
 have hnk:nk≤900000:=by have:=len_wtZ f;omega
 have HK:=Lib.hid hk
 have HL:=Lib.hid hl
 have HOF:=Lib.hid hof
 have HOK:=Lib.hid hok
 have HS:=Lib.hid hS
 clear hk hl hof hok hS
 have H0:Hid (MuRel S0 f w nk (.int .i64 (0:Nat)) ((w.alloc (.cells z5 39)).alloc (.cells (m5 (.slice none 0 0)) 39))):=by
  refine ⟨0,_,.nil,rfl,by omega,⟨rfl,trivial⟩,trivial,by simp [F.drop,szMs],OwnI.nil _ _ _,?_,?_,?_⟩
  ·exact (BoxI.new w z5 _).keep ((Below.refl _ _).alloc (Nat.le_refl _) _)
  ·have:=BoxI.new (w.alloc (.cells z5 39)) (m5 (.slice none 0 0)) 39
   rwa [World.size_alloc] at this
  ·exact ((Below.refl _ _).alloc (Nat.le_refl _) _).alloc (by simp) _
 go_enter Tryz.func24,Tryz.ntmps24
 go_wp2_with fail
 go_loopw [4] (fun i wr=>MuRel S0 f w nk i wr) (fun i _=>nk - (intOf i).toNat)
 case atStart=>exact H0.out
 case round=>
  obtain ⟨j,v,g,rfl,hj,hgl,hge,hgw,hown,hb0,hb1,hbl⟩:=hrel
  have hz:w.heap.size+2≤wr.heap.size:=hb1.1
  have HKW:=Lib.hid (HK.out.keep (KeepS.below hbl))
  have HBW:=Lib.hid hbl
  have HO:=Lib.hid hown
  have HB0:=Lib.hid hb0
  have HB1:=Lib.hid hb1
  have HGE:=Lib.hid hge
  have HGW:=Lib.hid hgw
  clear hbl hown hb0 hb1 hge hgw
  by_cases hlt:j < nk
  ·obtain ⟨⟨nm,t⟩,hx⟩:=F.get_some f j (by rw [HL.out];exact hlt)
   obtain ⟨htok,hnok⟩:=HOK.out.get hx
   have hwt:=F.wt_get f j nm t hx
   have hkz:=HKW.out.atZ hx
   rw [Nat.zero_add] at hkz
   obtain ⟨b,o,k,bits,hi,lo,text,more,sub,ab,nb,cb,ak,nk',ck',rfl,hnm,htr,e0,e1,e2,e3,e4,e5,e6,e7,e8,e9,hsb⟩:=hkz
   have hIT:∀ W,Below wr.heap.size wr W→Calls Tryz.prog 43 #[.agg (valCells k bits hi lo text more sub ab nb cb ak nk' ck')] W (MtOut S0 t W):=fun W hW=>
    HOF.out t (by omega) htok S0 W _ (fun i hi=>by have:=HS.out i hi;have:=hW.size;omega) (htr.keep (KeepS.below hW))
   have HIT:=Lib.hid hIT
   have HNM:=Lib.hid hnm
   have HNOK:=Lib.hid hnok
   have HWT:=Lib.hid hwt
   clear hx hIT hnm hnok hwt htr htok
   have hj0:(0:Int)≤(j:Int):=by omega
   have hj1:(j:Int) < (nk:Int):=by omega
   have hcur:=fun k hk=>(HO.out.far k hk).1
   have HFAR:=Lib.hid hcur
   have hnoO:v.ownBlock≠some (w.heap.size+1):=fun e=>by have:=hcur _ e;omega
   have hnoB:v.ownBlock≠some b:=fun e=>by have h1:=hcur _ e;have h2:=HS.out b hsb;omega
   have q4:wr.cell? ⟨w.heap.size+1,4,none⟩=some v:=(HB1.out.2 4 (by omega)).1
   have z4:wr.frozen? ⟨w.heap.size+1,4,none⟩=false:=(HB1.out.2 4 (by omega)).2
   have HKB:Hid (∀ W,Below wr.heap.size wr W→W.cell? ⟨b,o+j * 10,none⟩=some (.string nm)∧W.cell? ⟨b,o+j * 10+1,none⟩=some (.int .i64 k)∧W.cell? ⟨b,o+j * 10+2,none⟩=some (.int .u64 (bits:Nat))∧W.cell? ⟨b,o+j * 10+3,none⟩=some (.int .u64 (hi:Nat))∧W.cell? ⟨b,o+j * 10+4,none⟩=some (.int .u64 (lo:Nat))∧W.cell? ⟨b,o+j * 10+5,none⟩=some (.string text)∧W.cell? ⟨b,o+j * 10+6,none⟩=some (.string more)∧W.cell? ⟨b,o+j * 10+7,none⟩=some (.int .i64 sub)∧W.cell? ⟨b,o+j * 10+8,none⟩=some (.slice ab nb cb)∧W.cell? ⟨b,o+j * 10+9,none⟩=some (.slice ak nk' ck')∧W.cell? ⟨w.heap.size+1,4,none⟩=some v):=Lib.hid fun W hW=>⟨cell_below hW e0,cell_below hW e1,cell_below hW e2,cell_below hW e3,cell_below hW e4,cell_below hW e5,cell_below hW e6,cell_below hW e7,cell_below hW e8,cell_below hW e9,cell_below hW q4⟩
   have HQ:Hid (∀ W,Chg (fun k=>v.ownBlock=some k) wr W→W.cell? ⟨w.heap.size+1,4,none⟩=some v∧W.frozen? ⟨w.heap.size+1,4,none⟩=false):=Lib.hid fun W hW=>⟨hW.cell hnoO q4,by rw [frozenZ hW (p:=⟨w.heap.size+1,4,none⟩) hnoO HB1.out.1];exact z4⟩
   have HFS:Hid (∀ k,(S0 k∨wr.heap.size≤k)→(S0 k∨w.heap.size+2≤k)∧v.ownBlock≠some k):=Lib.hid fun i hi=>by
    have h9:=HO.out.far i
    rcases hi with hi|hi
    ·have h8:=HS.out i hi
     exact ⟨.inl hi,fun e=>by have:=h9 e;omega⟩
    ·exact ⟨.inr (by omega),fun e=>by have:=h9 e;omega⟩
   have hx0:Below wr.heap.size wr wr:=Below.refl _ _
   go_upto_region 5 with fail
   go_region_law ((first
     | (go_simp;go_at_call 42;(with_reducible refine (text29_calls _ _).mono ?_);rintro e w9 ⟨rfl,hb9⟩;(try (have HX:=Lib.hid (HX.out.below (below_then3' (by (repeat' (first|with_reducible assumption|with_reducible refine Below.drew ?_|with_reducible refine Below.alloc ?_ (by first|omega|exact Nat.le_refl _|(simp;done)|(simp;omega)) _|with_reducible exact Below.refl _ _))) hb9))));have hx9:=below_then3' (a:=wr) (by (repeat' (first|with_reducible assumption|with_reducible refine Below.drew ?_|with_reducible refine Below.alloc ?_ (by first|omega|exact Nat.le_refl _|(simp;done)|(simp;omega)) _|with_reducible exact Below.refl _ _))) hb9;have hs9:=hx9.size;obtain ⟨y0,y1,y2,y3,y4,y5,y6,y7,y8,y9,y10⟩:=HKB.out w9 hx9;(have A9:∀ q,(w9.alloc q).cell? ⟨w.heap.size+1,4,none⟩=some v:=fun q=>cell_below ((Below.refl _ _).alloc (Nat.le_refl _) q) y10);clear hb9)
     | (go_simp;go_at_call 43;(with_reducible refine (HIT.out _ ?_).mono ?_);(case _=>(repeat' (first|with_reducible assumption|with_reducible refine Below.drew ?_|with_reducible refine Below.alloc ?_ (by first|omega|exact Nat.le_refl _|(simp;done)|(simp;omega)) _|with_reducible exact Below.refl _ _)));rintro e w10 ⟨ki,ni,ab2,nb2,cb2,tx2,ak2,nk2,ck2,x,rfl,hr2,he2,hw2,hb10⟩;have HX:=Lib.hid (rdit_from (a:=wr) hr2 (by (repeat' (first|with_reducible assumption|with_reducible refine Below.drew ?_|with_reducible refine Below.alloc ?_ (by first|omega|exact Nat.le_refl _|(simp;done)|(simp;omega)) _|with_reducible exact Below.refl _ _))));have hx10:=below_then3' (a:=wr) (by (repeat' (first|with_reducible assumption|with_reducible refine Below.drew ?_|with_reducible refine Below.alloc ?_ (by first|omega|exact Nat.le_refl _|(simp;done)|(simp;omega)) _|with_reducible exact Below.refl _ _))) hb10;have hs10:=hx10.size;obtain ⟨x0,x1,x2,x3,x4,x5,x6,x7,x8,x9,x10⟩:=HKB.out w10 hx10;(have A10:∀ q,(w10.alloc q).cell? ⟨w.heap.size+1,4,none⟩=some v:=fun q=>cell_below ((Below.refl _ _).alloc (Nat.le_refl _) q) x10);have HE2:=Lib.hid he2;have HW2:=Lib.hid hw2;clear hr2 he2 hw2 hb10)
     | (refine step_appI (v:=v) (f:=g) (B:=w.heap.size+2) (L:=fun k=>S0 k∨w.heap.size+2≤k) (sv:=.slice (some ⟨w9.heap.size,0,none⟩) 2 2) (g:=.cons (txtI nm) (.cons x .nil)) (S1:=fun k=>S0 k∨wr.heap.size≤k) (by rfl) _ _ (by rfl) (by rfl) (HO.out.keep ?_) (by rfl) (SrcI.two (RdIt_txt HNM.out) (HX.out.below ?_) (new_cells _ _ _ _ rfl)) HFS.out (by simp [IL.len];omega) (by first|omega|(simp;omega)) ?_;(case _=>(repeat' (first|with_reducible assumption|with_reducible refine Below.drew ?_|with_reducible refine Below.alloc ?_ (by first|omega|exact Nat.le_refl _|(simp;done)|(simp;omega)) _|with_reducible exact Below.refl _ _)));(case _=>(repeat' (first|with_reducible assumption|with_reducible refine Below.drew ?_|with_reducible refine Below.alloc ?_ (by first|omega|exact Nat.le_refl _|(simp;done)|(simp;omega)) _|with_reducible exact Below.refl _ _)));intro v5 w5 ho5 ha5;(have HC5o:Hid (Chg (fun k=>v.ownBlock=some k) wr w5):=(Chg.of_below (a:=wr) (by (repeat' (first|with_reducible assumption|with_reducible refine Below.drew ?_|with_reducible refine Below.alloc ?_ (by first|omega|exact Nat.le_refl _|(simp;done)|(simp;omega)) _|with_reducible exact Below.refl _ _)))).trans ha5.chg (fun i _ e=>e));obtain ⟨s4,s5⟩:=HQ.out _ HC5o.out;obtain ⟨a5,c5,hv5,-⟩:=OwnI.reads ho5 (fun k hk=>.inr hk);subst hv5;obtain ⟨N5,hN5⟩:∃ N,N=(g.append (.cons (txtI nm) (.cons x .nil))).len:=⟨_,rfl⟩;rw [← hN5] at ho5 ha5 ⊢;(have HN5:=Lib.hid hN5);(have HO5:=Lib.hid ho5);clear ho5 ha5 hN5)
     | (refine step_appI (v:=v) (f:=g) (B:=w.heap.size+2) (L:=fun k=>S0 k∨w.heap.size+2≤k) (sv:=.slice (some ⟨w10.heap.size,0,none⟩) 2 2) (g:=.cons (txtI nm) (.cons x .nil)) (S1:=fun k=>S0 k∨wr.heap.size≤k) (by rfl) _ _ (by rfl) (by rfl) (HO.out.keep ?_) (by rfl) (SrcI.two (RdIt_txt HNM.out) (HX.out.below ?_) (new_cells _ _ _ _ rfl)) HFS.out (by simp [IL.len];omega) (by first|omega|(simp;omega)) ?_;(case _=>(repeat' (first|with_reducible assumption|with_reducible refine Below.drew ?_|with_reducible refine Below.alloc ?_ (by first|omega|exact Nat.le_refl _|(simp;done)|(simp;omega)) _|with_reducible exact Below.refl _ _)));(case _=>(repeat' (first|with_reducible assumption|with_reducible refine Below.drew ?_|with_reducible refine Below.alloc ?_ (by first|omega|exact Nat.le_refl _|(simp;done)|(simp;omega)) _|with_reducible exact Below.refl _ _)));intro v5 w5 ho5 ha5;(have HC5o:Hid (Chg (fun k=>v.ownBlock=some k) wr w5):=(Chg.of_below (a:=wr) (by (repeat' (first|with_reducible assumption|with_reducible refine Below.drew ?_|with_reducible refine Below.alloc ?_ (by first|omega|exact Nat.le_refl _|(simp;done)|(simp;omega)) _|with_reducible exact Below.refl _ _)))).trans ha5.chg (fun i _ e=>e));(have HC5:Hid (Chg (fun k=>v.ownBlock=some k∨k=w.heap.size+1) wr w5):=HC5o.out.weaken (fun i _ e=>.inl e));obtain ⟨s4,s5⟩:=HQ.out _ HC5o.out;obtain ⟨a5,c5,hv5,-⟩:=OwnI.reads ho5 (fun k hk=>.inr hk);subst hv5;obtain ⟨N5,hN5⟩:∃ N,N=(g.append (.cons (txtI nm) (.cons x .nil))).len:=⟨_,rfl⟩;rw [← hN5] at ho5 ha5 ⊢;(have HN5:=Lib.hid hN5);(have HO5:=Lib.hid ho5);clear ho5 ha5 hN5)
     | fail))
   all_goals
    have HFIN:=Lib.hid (mu_next (nk:=nk) (f:=f) hlt HO5.out HC5o.out HFAR.out HB0.out HB1.out HBW.out hgl HGE.out HGW.out HWT.out HNOK.out HE2.out HW2.out HS.out)
    go_wp2_with fail
    exact ⟨HFIN.out,by simp [intOf];omega⟩
  ·obtain ⟨aR,cR,rfl,-⟩:=OwnI.reads HO.out (fun k hk=>.inr hk)
   obtain ⟨N,hN⟩:∃ N,N=g.len:=⟨_,rfl⟩
   rw [← hN] at HO HB1
   have hj2:j=nk:=by omega
   have q0:wr.cell? ⟨w.heap.size+1,0,none⟩=some (.int .i64 6):=(HB1.out.2 0 (by omega)).1
   have q1:wr.cell? ⟨w.heap.size+1,1,none⟩=some (.int .u64 0):=(HB1.out.2 1 (by omega)).1
   have q2:wr.cell? ⟨w.heap.size+1,2,none⟩=some (.slice none 0 0):=(HB1.out.2 2 (by omega)).1
   have q3:wr.cell? ⟨w.heap.size+1,3,none⟩=some (.string ⟨#[]⟩):=(HB1.out.2 3 (by omega)).1
   have q4:wr.cell? ⟨w.heap.size+1,4,none⟩=some (.slice aR N cR):=(HB1.out.2 4 (by omega)).1
   have p0:wr.cell? ⟨w.heap.size,0,none⟩=some (.int .i64 0):=(HB0.out.2 0 (by omega)).1
   have p1:wr.cell? ⟨w.heap.size,1,none⟩=some (.int .u64 0):=(HB0.out.2 1 (by omega)).1
   have p2:wr.cell? ⟨w.heap.size,2,none⟩=some (.slice none 0 0):=(HB0.out.2 2 (by omega)).1
   have p3:wr.cell? ⟨w.heap.size,3,none⟩=some (.string ⟨#[]⟩):=(HB0.out.2 3 (by omega)).1
   have p4:wr.cell? ⟨w.heap.size,4,none⟩=some (.slice none 0 0):=(HB0.out.2 4 (by omega)).1
   have r0:wr.frozen? ⟨w.heap.size,0,none⟩=false:=(HB0.out.2 0 (by omega)).2
   have r1:wr.frozen? ⟨w.heap.size,1,none⟩=false:=(HB0.out.2 1 (by omega)).2
   have r2:wr.frozen? ⟨w.heap.size,2,none⟩=false:=(HB0.out.2 2 (by omega)).2
   have r3:wr.frozen? ⟨w.heap.size,3,none⟩=false:=(HB0.out.2 3 (by omega)).2
   have r4:wr.frozen? ⟨w.heap.size,4,none⟩=false:=(HB0.out.2 4 (by omega)).2
   have HFN:Hid (∀ W',Chg (fun k=>k=w.heap.size) wr W'→MuOut S0 f w (.returned (.agg (itCells 6 0 none 0 0 ⟨#[]⟩ aR N cR))) W'):=Lib.hid fun W' hC=>by
    have hO2:=ownI_chgZ HO.out hC (fun k hk e=>by rcases hk with hk|hk;have:=HS.out k hk;omega;omega) (fun k hk e=>by have:=(HO.out.far k hk).1;omega)
    obtain ⟨a',c',e',h1,h2,h3⟩:=OwnI.reads (L:=fun k=>S0 k∨w.heap.size+2≤k) hO2 (fun k hk=>.inr hk)
    simp only [Value.slice.injEq] at e'
    obtain ⟨rfl,e9,rfl⟩:=e'
    rw [← hN] at h2 h3
    refine ⟨aR,N,cR,g,rfl,RdIs.imp (fun k _ hk=>by rcases hk with hk|hk;exact .inl hk;exact .inr (by omega)) h1,h2,hN.symm,h3,⟨by omega,hgl.2⟩,HGE.out,?_,HBW.out.trans (hC.below HBW.out.size (fun i hi=>by omega))⟩
    have:=HGW.out;omega
   clear hN hgl hj2
   go_wp2_with fail
   refine bodyPost_ret (v:=.agg (itCells 6 0 none 0 0 ⟨#[]⟩ aR N cR)) (by simp [results,Tryz.results24,go_sem, *]) rfl ?_
   refine HFN.out _ ?_
   iterate 5 (refine Chg.set2 ?_ (by exact rfl) _ _)
   exact Chg.refl _ _
end Go.Proofs.YtmooaepbdmengaaGreatDoor
