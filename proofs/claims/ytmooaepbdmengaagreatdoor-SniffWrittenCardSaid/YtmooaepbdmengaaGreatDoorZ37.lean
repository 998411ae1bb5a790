/- Parts of the proof of SniffWritten: JvH. -/
import Derived.Test.YtmooaepbdmengaaGreatDoorZ36
import Derived.Deep.RegionLaw
namespace Go.Proofs.YtmooaepbdmengaaGreatDoor
open Go.RowKit
set_option linter.unusedVariables false
set_option linter.unusedSimpArgs false
def JaRel (f:F) (w:World) (gi nk:Nat) (c8 i:Value) (wr:World):Prop:=
 ∃ (j:Nat) (v:Value) (g:M),i=.int .i64 (j:Nat)∧j≤nk∧g.len=j∧checkM g=0∧g.bare=true∧wtM g+80 * (f.drop j).wt≤80 * f.wt∧OwnM wr (gi+1) (fun k=>gi+1≤k) v g∧wr.cell? ⟨w.heap.size,8,none⟩=some c8∧BoxJ3 wr (w.heap.size+1) z3j∧BoxJ3 wr gi (o3 6 v)∧Below w.heap.size w wr
theorem ja_next {f:F} {w wr w5:World} {gi nk j:Nat} {c8 v:Value} {g:M} {nm:ByteArray} {t:T} {x:J} {a5:Option Addr} {N5 c5:Nat} (hgi:w.heap.size+2≤gi) (hlt:j < nk)
  (hO:OwnM w5 (gi+1) (fun k=>gi+1≤k) (.slice a5 N5 c5) (g.append (.cons (sl ⟨#[]⟩) x .nil))) (hC:Chg (fun k=>v.ownBlock=some k) wr w5) (hfar:∀ k,v.ownBlock=some k→gi+1≤k)
  (hc8:wr.cell? ⟨w.heap.size,8,none⟩=some c8) (hB1:BoxJ3 wr (w.heap.size+1) z3j) (hBg:BoxJ3 wr gi (o3 6 v)) (hbl:Below w.heap.size w wr) (hgl:g.len=j) (hge:checkM g=0) (hgb:g.bare=true) (hgw:wtM g+80 * (f.drop j).wt≤80 * f.wt)
  (hwt:nm.size+t.wt+(f.drop (j+1)).wt≤(f.drop j).wt∧(f.drop j).wt≤f.wt) (he:checkJ x=0) (hw2:wtJ x≤80 * t.wt) :
  JaRel f w gi nk c8 (.int .i64 ((j:Int)+1)) (w5.setCell ⟨gi,2,none⟩ (.slice a5 N5 c5)):=by
 have hC1:=Chg.set1 w5 gi 2 (.slice a5 N5 c5)
 have hb5:Below w.heap.size w w5:=hbl.trans (hC.below hbl.size (fun i hi=>by have:=hfar i hi;omega))
 have e0:sl (⟨#[]⟩:ByteArray)=[]:=rfl
 refine ⟨j+1,_,_,rfl,by omega,?_,chkM_app _ _ hge (chkM_cons rfl he rfl),bare_app _ _ hgb (by rw [e0];rfl),?_,hO.chg hC1 (fun k hk e=>by omega) (fun k hk e=>by have:=(hO.far k hk).1;omega),hC1.cell (p:=⟨w.heap.size,8,none⟩) (fun e=>by have e2:w.heap.size=gi:=e;omega) (hC.cell (p:=⟨w.heap.size,8,none⟩) (fun e=>by have e2:=hfar w.heap.size e;omega) hc8),?_,?_,?_⟩
 ·rw [M.append_len];simp only [M.len];omega
 ·rw [wtM_app,e0];simp only [wtM,List.length_nil];omega
 ·exact (hB1.chg hC (fun e=>by have:=hfar _ e;omega)).chg hC1 (by omega)
 ·exact (hBg.chg hC (fun e=>by have:=hfar _ e;omega)).set 2 _ (by simp [o3]) (by omega)
 ·exact hb5.trans (hC1.below hb5.size (fun i hi=>by omega))
set_option maxRecDepth 100000 in
set_option maxHeartbeats 4000000 in
theorem value_4 (t:T) (ez:Bool) (w:World) (bits hi lo:Nat) (text more:ByteArray) (sub:Int) (ab:Option Addr) (nb cb:Nat) (ak:Option Addr) (nk ck:Nat) (d:Nat) (hof:ValSaid d) (f:F) (hm:∀ W,Below w.heap.size w W→Calls Tryz.prog 33 #[.slice ak nk ck,.bool ez] W (JO (fun _=>False) (2+80 * f.wt) W)) (hk:RdKs w ak 0 f) (hl:f.len=nk) (hd:f.wt≤d) (hd9:d≤40000) (hok:OkF f) (hw:f.wt+2≤t.wt):Calls Tryz.prog 55 #[.agg (valCells 4 bits hi lo text more sub ab nb cb ak nk ck),.bool ez] w (JO (fun _=>False) (80 * t.wt) w):=by
 obtain ⟨wa,hwa⟩:∃ W,W=((w.alloc (.cells (valCells 4 bits hi lo text more sub ab nb cb ak nk ck) 26)).alloc (.cells (jCells 0 ⟨#[]⟩ none 0 0) 53)):=⟨_,rfl⟩
 have HBA:Hid (Below w.heap.size w wa):=Lib.hid (by rw [hwa];exact ((Below.refl _ _).alloc (Nat.le_refl _) _).alloc (by simp) _)
 have HXA:Hid (BoxJ3 wa (w.heap.size+1) z3j):=Lib.hid (by rw [hwa];exact BoxJ3.newG _ _ _ _ (by simp))
 have HBV:Hid (BoxV wa w.heap.size (valCells 4 bits hi lo text more sub ab nb cb ak nk ck)):=Lib.hid (by rw [hwa];exact (BoxV.new w _ _).keep ((Below.refl _ _).alloc (Nat.le_refl _) _))
 have hz2:w.heap.size+2≤wa.heap.size:=HXA.out.1
 have hnk:nk≤40000:=by have:=len_wtZ f;omega
 have HV:=Lib.hid hw
 have HM:=Lib.hid (fun W (h:Below wa.heap.size wa W)=>hm W (HBA.out.trans (h.mono HBA.out.size)))
 have HK:=Lib.hid (RdKsS.of hk)
 have HL:=Lib.hid hl
 have HOF:=Lib.hid hof
 have HOK:=Lib.hid hok
 have HRG:=Lib.hid (fun W (h:Below w.heap.size w W)=>regular_calls f W ak nk ck (hk.keep h) hl (by omega))
 clear hw hm hk hl hof hok
 obtain ⟨f0,f1,f2,f3,f4,f5,f6,f7,f8,l0⟩:=HBV.out.nine
 go_enter Tryz.func55,Tryz.ntmps55
 go_upto_region 13 with fail
 rw [← hwa]
 clear hwa
 go_wp2_with fail
 refine (HRG.out _ HBA.out).mono ?_
 rintro e w1 ⟨⟨b,rfl⟩,hb1⟩
 have HBw1:=Lib.hid hb1
 have HBV1:=Lib.hid (HBV.out.keep hb1)
 clear hb1 f0 f1 f2 f3 f4 f5 f6 f7 f8 l0
 obtain ⟨f0,f1,f2,f3,f4,f5,f6,f7,f8,l0⟩:=HBV1.out.nine
 cases b with
 | false=>
  go_wp2_with fail
  refine (HM.out _ HBw1.out).mono ?_
  rintro e w2 ⟨v2,rfl,hj,hb⟩
  have HBw2:=Lib.hid (HBw1.out.trans (hb.mono HBw1.out.size))
  have HJ1:=Lib.hid (hj.imp (S':=fun k=>wa.heap.size≤k) (fun i _ h=>by have h9:=HBw1.out.size;rcases h with h|h<;>first|exact False.elim h|omega) (Nat.le_refl _))
  clear hj
  clear f0 f1 f2 f3 f4 f5 f6 f7 f8 l0
  clear hb
  go_wp2_with fail
  refine (one25N (N:=6) (WhN.lit rfl (by decide) (by omega)) (HJ1.out)).mono ?_
  rintro e w3 ⟨v3,rfl,hj,hb⟩
  have HBw3:=Lib.hid (HBw2.out.trans (hb.mono HBw2.out.size))
  have HJ:Hid (JV (fun k=>False∨w.heap.size+1+1≤k) (80 * t.wt) w3 v3):=Lib.hid (hj.imp (fun i _ h=>.inr (by have h9:=HBw2.out.size;rcases h with h|h<;>omega)) (by have:=HV.out;omega))
  clear hb
  have hj:=HJ.out
  obtain ⟨k9,x9,a9,n9,c9,j9,rfl,-⟩:=hj
  obtain ⟨c0,c1,c2,r0,r1,r2,l1⟩:=(HXA.out.keep HBw3.out).three
  have HBW:=Lib.hid (HBA.out.trans (HBw3.out.mono HBA.out.size))
  go_wp2_with fail
  refine bodyPost_ret (v:=.agg (jCells k9 x9 a9 n9 c9)) (by simp [results,Tryz.results55,go_sem, *]) rfl ?_
  refine jo_fin (g:=w.heap.size+1) (S:=fun _=>False) (fun _ h=>h.elim) (by omega) HJ.out (Nat.le_refl _) HBW.out ?_
  iterate 3 (refine Chg.set2 ?_ (by exact rfl) _ _)
  exact Chg.refl _ _
 | true=>
  obtain ⟨gi,hgi⟩:∃ gi,gi=w1.heap.size:=⟨_,rfl⟩
  have hs1:=HBw1.out.size
  have hgz:w.heap.size+2≤gi:=by omega
  obtain ⟨w2,hw2⟩:∃ W,W=w1.alloc (.cells (jCells 6 ⟨#[]⟩ none 0 0) 53):=⟨_,rfl⟩
  have hb12:Below w1.heap.size w1 w2:=by rw [hw2];exact (Below.refl _ _).alloc (Nat.le_refl _) _
  have hb02:Below wa.heap.size wa w2:=HBw1.out.trans (hb12.mono hs1)
  have H0:Hid (JaRel f w gi nk (.slice ak nk ck) (.int .i64 (0:Nat)) w2):=Lib.hid ⟨0,.slice none 0 0,.nil,rfl,by omega,rfl,rfl,rfl,by simp [F.drop,wtM],OwnM.nil _ _ _,cell_below hb12 f8,HXA.out.keep hb02,by rw [hw2,hgi];exact BoxJ3.new w1 _ _,HBA.out.trans (hb02.mono HBA.out.size)⟩
  go_upto_region 16 with fail
  rw [← hw2,← hgi]
  have HGI:=Lib.hid hgz
  clear f0 f1 f2 f3 f4 f5 f6 f7 f8 l0 hs1 hz2 hw2 hgi hb12 hb02 hgz
  go_wp2_with fail
  go_loopw [6] (fun i wr=>JaRel f w gi nk (.slice ak nk ck) i wr) (fun i _=>nk - (intOf i).toNat)
  case atStart=>exact H0.out
  case round=>
   obtain ⟨j,v,g,rfl,hj,hgl,hge,hgb,hgw,hown,hc8,hb1,hbg,hbl⟩:=hrel
   have hz:gi+1≤wr.heap.size:=hbg.1
   have hgi:=HGI.out
   have HKW:=Lib.hid (HK.out.keep (KeepS.below hbl))
   have HBW:=Lib.hid hbl
   have HO:=Lib.hid hown
   have HC8:=Lib.hid hc8
   have HB1:=Lib.hid hb1
   have HBG:=Lib.hid hbg
   have HGE:=Lib.hid hge
   have HGB:=Lib.hid hgb
   have HGW:=Lib.hid hgw
   have f8:=hc8
   clear hbl hown hb1 hbg hge hgw hc8 hgb
   by_cases hlt:j < nk
   ·obtain ⟨⟨nm,t2⟩,hx⟩:=F.get_some f j (by rw [HL.out];exact hlt)
    obtain ⟨htok,hnok⟩:=HOK.out.get hx
    have hwt:=F.wt_get f j nm t2 hx
    have hkz:=HKW.out.atZ hx
    rw [Nat.zero_add] at hkz
    obtain ⟨b,o,k,bits2,hi2,lo2,text2,more2,sub2,ab2,nb2,cb2,ak2,nk2,ck2,rfl,hnm,htr,e0,e1,e2,e3,e4,e5,e6,e7,e8,e9,hsb⟩:=hkz
    have hIT:∀ W,Below wr.heap.size wr W→Calls Tryz.prog 55 #[.agg (valCells k bits2 hi2 lo2 text2 more2 sub2 ab2 nb2 cb2 ak2 nk2 ck2),.bool ez] W (JO (fun _=>False) (80 * t2.wt) W):=fun W hW=>
     HOF.out t2 (by omega) htok ez W _ (htr.rd.keep hW)
    have HIT:=Lib.hid hIT
    have HWT:=Lib.hid hwt
    clear hx hIT hnm hnok hwt htr htok
    have hj0:(0:Int)≤(j:Int):=by omega
    have hj1:(j:Int) < (nk:Int):=by omega
    have hcur:=fun k hk=>(HO.out.far k hk).1
    have HFAR:=Lib.hid hcur
    have hnoO:v.ownBlock≠some gi:=fun e=>by have:=hcur _ e;omega
    have hnoB:v.ownBlock≠some b:=fun e=>by have h1:=hcur _ e;omega
    have hnoW:v.ownBlock≠some w.heap.size:=fun e=>by have h1:=hcur _ e;omega
    have q4:wr.cell? ⟨gi,2,none⟩=some v:=(HBG.out.2 2 (by omega)).1
    have z4:wr.frozen? ⟨gi,2,none⟩=false:=(HBG.out.2 2 (by omega)).2
    have HKB:Hid (∀ W,Below wr.heap.size wr W→W.cell? ⟨b,o+j * 10,none⟩=some (.string nm)∧W.cell? ⟨b,o+j * 10+1,none⟩=some (.int .i64 k)∧W.cell? ⟨b,o+j * 10+2,none⟩=some (.int .u64 (bits2:Nat))∧W.cell? ⟨b,o+j * 10+3,none⟩=some (.int .u64 (hi2:Nat))∧W.cell? ⟨b,o+j * 10+4,none⟩=some (.int .u64 (lo2:Nat))∧W.cell? ⟨b,o+j * 10+5,none⟩=some (.string text2)∧W.cell? ⟨b,o+j * 10+6,none⟩=some (.string more2)∧W.cell? ⟨b,o+j * 10+7,none⟩=some (.int .i64 sub2)∧W.cell? ⟨b,o+j * 10+8,none⟩=some (.slice ab2 nb2 cb2)∧W.cell? ⟨b,o+j * 10+9,none⟩=some (.slice ak2 nk2 ck2)∧W.cell? ⟨gi,2,none⟩=some v∧W.cell? ⟨w.heap.size,8,none⟩=some (.slice (some ⟨b,o,none⟩) nk ck)):=Lib.hid fun W hW=>⟨cell_below hW e0,cell_below hW e1,cell_below hW e2,cell_below hW e3,cell_below hW e4,cell_below hW e5,cell_below hW e6,cell_below hW e7,cell_below hW e8,cell_below hW e9,cell_below hW q4,cell_below hW f8⟩
    have HQ:Hid (∀ W,Chg (fun k=>v.ownBlock=some k) wr W→W.cell? ⟨gi,2,none⟩=some v∧W.frozen? ⟨gi,2,none⟩=false):=Lib.hid fun W hW=>⟨hW.cell hnoO q4,by rw [frozenZ hW (p:=⟨gi,2,none⟩) hnoO HBG.out.1];exact z4⟩
    have HFS:Hid (∀ k,wr.heap.size≤k→(gi+1≤k)∧v.ownBlock≠some k):=Lib.hid fun i hi=>by
     have h9:=HO.out.far i
     exact ⟨by omega,fun e=>by have:=h9 e;omega⟩
    have hx0:Below wr.heap.size wr wr:=Below.refl _ _
    clear hcur
    go_upto_region 19 with fail
    go_region_law ((first
     | (go_simp;go_at_call 55;(with_reducible refine (HIT.out _ ?_).mono ?_);(case _=>(repeat' (first|with_reducible assumption|with_reducible refine Below.drew ?_|with_reducible refine Below.alloc ?_ (by first|omega|exact Nat.le_refl _|(simp;done)|(simp;omega)) _|with_reducible exact Below.refl _ _)));rintro e w10 ⟨u10,rfl,hj10,hb10⟩;have hx10:=below_then3' (a:=wr) (by (repeat' (first|with_reducible assumption|with_reducible refine Below.drew ?_|with_reducible refine Below.alloc ?_ (by first|omega|exact Nat.le_refl _|(simp;done)|(simp;omega)) _|with_reducible exact Below.refl _ _))) hb10;have hs10:=hx10.size;obtain ⟨k9,x9,a9,n9,c9,j9,rfl,hr2,he2,hw2⟩:=hj10;have HXI:=Lib.hid (hr2.imp (S':=fun k=>wr.heap.size≤k) (fun i _ h=>h.elim (fun h=>h.elim) (fun h=>by have:=hx10.size;first|omega|(simp at h;omega))));obtain ⟨x0,x1,x2,x3,x4,x5,x6,x7,x8,y9,x10,x11⟩:=HKB.out w10 hx10;(have A10:∀ q,(w10.alloc q).cell? ⟨gi,2,none⟩=some v:=fun q=>cell_below ((Below.refl _ _).alloc (Nat.le_refl _) q) x10);have HE2:=Lib.hid he2;have HW2:=Lib.hid hw2;clear hr2 he2 hw2 hb10)
     | (refine step_appM (v:=v) (f:=g) (B:=gi+1) (L:=fun k=>gi+1≤k) (sv:=.slice (some ⟨w10.heap.size,0,none⟩) 1 1) (g:=.cons (sl ⟨#[]⟩) j9 .nil) (S1:=fun k=>wr.heap.size≤k) (by rfl) _ _ (by rfl) (by rfl) (HO.out.keep ?_) (by rfl) (SrcM.one (HXI.out.below ?_) (by decide) (new_cells _ _ _ _ rfl)) HFS.out (by simp [M.len];omega) (by first|omega|(simp;omega)) ?_;(case _=>(repeat' (first|with_reducible assumption|with_reducible refine Below.drew ?_|with_reducible refine Below.alloc ?_ (by first|omega|exact Nat.le_refl _|(simp;done)|(simp;omega)) _|with_reducible exact Below.refl _ _)));(case _=>(repeat' (first|with_reducible assumption|with_reducible refine Below.drew ?_|with_reducible refine Below.alloc ?_ (by first|omega|exact Nat.le_refl _|(simp;done)|(simp;omega)) _|with_reducible exact Below.refl _ _)));intro v5 w5 ho5 ha5;(have HC5o:Hid (Chg (fun k=>v.ownBlock=some k) wr w5):=(Chg.of_below (a:=wr) (by (repeat' (first|with_reducible assumption|with_reducible refine Below.drew ?_|with_reducible refine Below.alloc ?_ (by first|omega|exact Nat.le_refl _|(simp;done)|(simp;omega)) _|with_reducible exact Below.refl _ _)))).trans ha5.chg (fun i _ e=>e));obtain ⟨s4,s5⟩:=HQ.out _ HC5o.out;obtain ⟨a5,c5,hv5,-⟩:=OwnM.reads ho5 (fun k hk=>hk);subst hv5;obtain ⟨N5,hN5⟩:∃ N,N=(g.append (.cons (sl ⟨#[]⟩) j9 .nil)).len:=⟨_,rfl⟩;rw [← hN5] at ho5 ha5 ⊢;(have HN5:=Lib.hid hN5);(have HO5:=Lib.hid ho5);clear ho5 ha5 hN5)
     | fail))
    all_goals
     have HFIN:=Lib.hid (ja_next (nk:=nk) (f:=f) HGI.out hlt HO5.out HC5o.out HFAR.out HC8.out HB1.out HBG.out HBW.out hgl HGE.out HGB.out HGW.out HWT.out HE2.out HW2.out)
     go_wp2_with fail
     exact ⟨HFIN.out,by simp [intOf];omega⟩
   ·obtain ⟨aR,cR,rfl,hrd,hro,hle⟩:=OwnM.reads HO.out (fun k hk=>hk)
    have hjn:decide ((j:Int) < (nk:Int))=false:=by simp;omega
    have HJ:Hid (JV (fun k=>False∨w.heap.size+1+1≤k) (80 * t.wt) wr (.agg (jCells 6 ⟨#[]⟩ aR g.len cR))):=Lib.hid ((jv_arr (hrd.imp (S':=fun k=>False∨w.heap.size+1+1≤k) (fun i _ h=>.inr (by omega))) rfl hle hro HGE.out HGB.out (Nat.le_refl _)).imp (fun _ _ h=>h) (by have:=HGW.out;have:=HV.out;omega))
    obtain ⟨N,hN⟩:∃ N,N=g.len:=⟨_,rfl⟩
    rw [← hN] at HJ HBG
    obtain ⟨p0,p1,p2,r0,r1,r2,r3⟩:=HB1.out.three
    have q0:wr.cell? ⟨gi,0,none⟩=some (.int .i64 6):=(HBG.out.2 0 (by omega)).1
    have q1:wr.cell? ⟨gi,1,none⟩=some (.string ⟨#[]⟩):=(HBG.out.2 1 (by omega)).1
    have q2:wr.cell? ⟨gi,2,none⟩=some (.slice aR N cR):=(HBG.out.2 2 (by omega)).1
    clear hgl hN hrd hro hle
    go_wp2_with fail
    refine bodyPost_ret (v:=.agg (jCells 6 ⟨#[]⟩ aR N cR)) (by simp [results,Tryz.results55,go_sem, *]) rfl ?_
    refine jo_fin (g:=w.heap.size+1) (S:=fun _=>False) (fun _ h=>h.elim) (by omega) HJ.out (Nat.le_refl _) HBW.out ?_
    iterate 3 (refine Chg.set2 ?_ (by exact rfl) _ _)
    exact Chg.refl _ _
end Go.Proofs.YtmooaepbdmengaaGreatDoor
