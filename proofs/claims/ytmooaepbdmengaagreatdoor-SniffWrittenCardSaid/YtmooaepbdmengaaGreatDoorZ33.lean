/- Parts of the proof of SniffWritten: JvC. -/
import Derived.Test.YtmooaepbdmengaaGreatDoorZ32
import Derived.Test.YtmooaepbdmengaaGreatDoorZ03
import Derived.Deep.RegionLaw
namespace Go.Proofs.YtmooaepbdmengaaGreatDoor
open Go.RowKit
set_option linter.unusedVariables false
set_option linter.unusedSimpArgs false
theorem step_appM {w:World} {ops:Array Oper} {o:Oper} {a:Act} {K:Act→World→Prop} {Q:Exit→Act→World→Prop} {E:Prop} (hgd:o.guard=none) (s x:Operand)
  (ho:o.op=.call { callee:=.builtin .append,args:=#[s,x],argTypes:=#[51,51] })
  {B:Nat} {L:Nat→Prop} {v:Value} {f:M} (hs:a.eval s=v) (hown:OwnM w B L v f) {sv:Value} {g:M} {S1:Nat→Prop} (hx:a.eval x=sv) (hsrc:SrcM S1 w sv g) (hS1:∀ k,S1 k→L k∧v.ownBlock≠some k)
  (hb:f.len+g.len≤1000000000) (hbase:B≤w.heap.size)
  (h:∀ v' w',OwnM w' B L v' (f.append g)→AppF w w' v v'→K (a.put o.dst v') w'):if Region.wanted o (yielded ops a.tmps)=true then Oper.wp Tryz.prog o a w K Q else E:=by
 obtain ⟨xs,S,ho',hk,hS⟩:=hown
 obtain ⟨ys,hg,hsr⟩:=hsrc
 exact step_app Tryz.underlying51 infoMem rfl (by omega) hgd s x ho hs ho' hx hsr (by unfold maxLen;omega) (by omega) hbase
  fun v' w' h1 h2=>h v' w' (OwnM.app hk hS hg hS1 h1 h2) h2
def ValSaid (d:Nat):Prop:=∀ t:T,t.wt≤d→OkT t→∀ (ez:Bool) (w:World) (c:Array Value),RdT w t c→Calls Tryz.prog 55 #[.agg c,.bool ez] w (JO (fun _=>False) (80 * t.wt) w)
def PlK (w:World) (e:Ending) (w':World):Prop:=∃ (a:Option Addr) (n c:Nat),e=.returned (.agg (jCells 7 ⟨#[]⟩ a n c))
def o3 (k:Int) (v:Value):Array Value:=#[.int .i64 k,.string ⟨#[]⟩,v]
def JpRel (f:F) (w:World) (nk:Nat) (i:Value) (wr:World):Prop:=
 ∃ (j:Nat) (v:Value) (g:M),i=.int .i64 (j:Nat)∧j≤nk∧g.len=j∧checkM g=0∧wtM g+80 * (f.drop j).wt≤80 * f.wt∧OwnM wr (w.heap.size+2) (fun k=>w.heap.size+2≤k) v g∧BoxJ3 wr w.heap.size z3j∧BoxJ3 wr (w.heap.size+1) (o3 7 v)∧Below w.heap.size w wr
theorem jp_next {f:F} {w wr w5:World} {nk j:Nat} {v:Value} {g:M} {nm:ByteArray} {t:T} {x:J} {a5:Option Addr} {N5 c5:Nat} (hlt:j < nk)
  (hO:OwnM w5 (w.heap.size+2) (fun k=>w.heap.size+2≤k) (.slice a5 N5 c5) (g.append (.cons (sl nm) x .nil))) (hC:Chg (fun k=>v.ownBlock=some k) wr w5) (hfar:∀ k,v.ownBlock=some k→w.heap.size+2≤k)
  (hB0:BoxJ3 wr w.heap.size z3j) (hB1:BoxJ3 wr (w.heap.size+1) (o3 7 v)) (hbl:Below w.heap.size w wr) (hgl:g.len=j) (hge:checkM g=0) (hgw:wtM g+80 * (f.drop j).wt≤80 * f.wt)
  (hwt:nm.size+t.wt+(f.drop (j+1)).wt≤(f.drop j).wt∧(f.drop j).wt≤f.wt) (hnok:textOk true (sl nm)=true) (hns:nm.size≤9223372036854775807) (he:checkJ x=0) (hw2:wtJ x≤80 * t.wt) :
  JpRel f w nk (.int .i64 ((j:Int)+1)) (w5.setCell ⟨w.heap.size+1,2,none⟩ (.slice a5 N5 c5)):=by
 have hC1:=Chg.set1 w5 (w.heap.size+1) 2 (.slice a5 N5 c5)
 have hb5:Below w.heap.size w w5:=hbl.trans (hC.below hbl.size (fun i hi=>by have:=hfar i hi;omega))
 have hx0:=hB0.chg hC (fun e=>by have:=hfar _ e;omega)
 have hx1:=hB1.chg hC (fun e=>by have:=hfar _ e;omega)
 have hwh:wholeB (sl nm)=true:=Wh.b ⟨whole_of_ok hnok,hns⟩
 have hsl:=sl_len nm
 refine ⟨j+1,_,_,rfl,by omega,?_,chkM_app _ _ hge (chkM_cons hwh he rfl),?_,hO.chg hC1 (fun k hk e=>by omega) (fun k hk e=>by have:=(hO.far k hk).1;omega),?_,?_,?_⟩
 ·rw [M.append_len];simp only [M.len];omega
 ·rw [wtM_app];simp only [wtM];omega
 ·exact hx0.chg hC1 (by omega)
 ·exact hx1.set 2 _ (by simp [o3]) (by omega)
 ·exact hb5.trans (hC1.below hb5.size (fun i hi=>by omega))
set_option maxRecDepth 100000 in
set_option maxHeartbeats 8000000 in
theorem plain25_kind (d:Nat) (hof:ValSaid d) (f:F) (ez:Bool) (w:World) (a:Option Addr) (nk ck:Nat) (hk:RdKs w a 0 f) (hl:f.len=nk) (hw:f.wt≤d) (hd:d≤40000) (hok:OkF f) :
  Calls Tryz.prog 33 #[.slice a nk ck,.bool ez] w fun e w'=>PlK w e w'∧JO (fun _=>False) (2+80 * f.wt) w e w':=by
 have hnk:nk≤40000:=by have:=len_wtZ f;omega
 have HK:=Lib.hid (RdKsS.of hk)
 have HL:=Lib.hid hl
 have HOF:=Lib.hid hof
 have HOK:=Lib.hid hok
 clear hk hl hof hok
 have H0:Hid (JpRel f w nk (.int .i64 (0:Nat)) ((w.alloc (.cells (jCells 0 ⟨#[]⟩ none 0 0) 53)).alloc (.cells (jCells 7 ⟨#[]⟩ none 0 0) 53))):=by
  refine ⟨0,.slice none 0 0,.nil,rfl,by omega,rfl,rfl,by simp [F.drop,wtM],OwnM.nil _ _ _,?_,?_,?_⟩
  ·exact (BoxJ3.new w _ _).keep ((Below.refl _ _).alloc (Nat.le_refl _) _)
  ·exact BoxJ3.newG _ _ _ _ (by simp)
  ·exact ((Below.refl _ _).alloc (Nat.le_refl _) _).alloc (by simp) _
 go_enter Tryz.func33,Tryz.ntmps33
 go_wp2_with fail
 go_loopw [6] (fun i wr=>JpRel f w nk i wr) (fun i _=>nk - (intOf i).toNat)
 case atStart=>exact H0.out
 case round=>
  obtain ⟨j,v,g,rfl,hj,hgl,hge,hgw,hown,hb0,hb1,hbl⟩:=hrel
  have hz:w.heap.size+2≤wr.heap.size:=hb1.1
  have HKW:=Lib.hid (HK.out.keep (KeepS.below hbl))
  have HBW:=Lib.hid hbl
  have HO:=Lib.hid hown
  have HB0:=Lib.hid hb0
  have HB1:=Lib.hid hb1
  have HGE:=Lib.hid hge
  have HGW:=Lib.hid hgw
  clear hbl hown hb0 hb1 hge hgw
  by_cases hlt:j < nk
  ·obtain ⟨⟨nm,t⟩,hx⟩:=F.get_some f j (by rw [HL.out];exact hlt)
   obtain ⟨htok,hnok⟩:=HOK.out.get hx
   have hwt:=F.wt_get f j nm t hx
   have hkz:=HKW.out.atZ hx
   rw [Nat.zero_add] at hkz
   obtain ⟨b,o,k,bits2,hi2,lo2,text2,more2,sub2,ab2,nb2,cb2,ak2,nk2,ck2,rfl,hnm,htr,e0,e1,e2,e3,e4,e5,e6,e7,e8,e9,hsb⟩:=hkz
   have hIT:∀ W,Below wr.heap.size wr W→Calls Tryz.prog 55 #[.agg (valCells k bits2 hi2 lo2 text2 more2 sub2 ab2 nb2 cb2 ak2 nk2 ck2),.bool ez] W (JO (fun _=>False) (80 * t.wt) W):=fun W hW=>
    HOF.out t (by omega) htok ez W _ (htr.rd.keep hW)
   have HIT:=Lib.hid hIT
   have HNM:=Lib.hid hnm
   have HNOK:=Lib.hid hnok
   have HWT:=Lib.hid hwt
   clear hx hIT hnm hnok hwt htr htok
   have hj0:(0:Int)≤(j:Int):=by omega
   have hj1:(j:Int) < (nk:Int):=by omega
   have hcur:=fun k hk=>(HO.out.far k hk).1
   have HFAR:=Lib.hid hcur
   have hnoO:v.ownBlock≠some (w.heap.size+1):=fun e=>by have:=hcur _ e;omega
   have hnoB:v.ownBlock≠some b:=fun e=>by have h1:=hcur _ e;omega
   have q4:wr.cell? ⟨w.heap.size+1,2,none⟩=some v:=(HB1.out.2 2 (by omega)).1
   have z4:wr.frozen? ⟨w.heap.size+1,2,none⟩=false:=(HB1.out.2 2 (by omega)).2
   have HKB:Hid (∀ W,Below wr.heap.size wr W→W.cell? ⟨b,o+j * 10,none⟩=some (.string nm)∧W.cell? ⟨b,o+j * 10+1,none⟩=some (.int .i64 k)∧W.cell? ⟨b,o+j * 10+2,none⟩=some (.int .u64 (bits2:Nat))∧W.cell? ⟨b,o+j * 10+3,none⟩=some (.int .u64 (hi2:Nat))∧W.cell? ⟨b,o+j * 10+4,none⟩=some (.int .u64 (lo2:Nat))∧W.cell? ⟨b,o+j * 10+5,none⟩=some (.string text2)∧W.cell? ⟨b,o+j * 10+6,none⟩=some (.string more2)∧W.cell? ⟨b,o+j * 10+7,none⟩=some (.int .i64 sub2)∧W.cell? ⟨b,o+j * 10+8,none⟩=some (.slice ab2 nb2 cb2)∧W.cell? ⟨b,o+j * 10+9,none⟩=some (.slice ak2 nk2 ck2)∧W.cell? ⟨w.heap.size+1,2,none⟩=some v):=Lib.hid fun W hW=>⟨cell_below hW e0,cell_below hW e1,cell_below hW e2,cell_below hW e3,cell_below hW e4,cell_below hW e5,cell_below hW e6,cell_below hW e7,cell_below hW e8,cell_below hW e9,cell_below hW q4⟩
   have HQ:Hid (∀ W,Chg (fun k=>v.ownBlock=some k) wr W→W.cell? ⟨w.heap.size+1,2,none⟩=some v∧W.frozen? ⟨w.heap.size+1,2,none⟩=false):=Lib.hid fun W hW=>⟨hW.cell hnoO q4,by rw [frozenZ hW (p:=⟨w.heap.size+1,2,none⟩) hnoO HB1.out.1];exact z4⟩
   have HFS:Hid (∀ k,wr.heap.size≤k→(w.heap.size+2≤k)∧v.ownBlock≠some k):=Lib.hid fun i hi=>by
    have h9:=HO.out.far i
    exact ⟨by omega,fun e=>by have:=h9 e;omega⟩
   have hx0:Below wr.heap.size wr wr:=Below.refl _ _
   clear hcur
   go_upto_region 5 with fail
   go_region_law ((first
     | (go_simp;go_at_call 55;(with_reducible refine (HIT.out _ ?_).mono ?_);(case _=>(repeat' (first|with_reducible assumption|with_reducible refine Below.drew ?_|with_reducible refine Below.alloc ?_ (by first|omega|exact Nat.le_refl _|(simp;done)|(simp;omega)) _|with_reducible exact Below.refl _ _)));rintro e w10 ⟨u10,rfl,hj10,hb10⟩;have hx10:=below_then3' (a:=wr) (by (repeat' (first|with_reducible assumption|with_reducible refine Below.drew ?_|with_reducible refine Below.alloc ?_ (by first|omega|exact Nat.le_refl _|(simp;done)|(simp;omega)) _|with_reducible exact Below.refl _ _))) hb10;have hs10:=hx10.size;obtain ⟨k9,x9,a9,n9,c9,j9,rfl,hr2,he2,hw2⟩:=hj10;have HXI:=Lib.hid (hr2.imp (S':=fun k=>wr.heap.size≤k) (fun i _ h=>h.elim (fun h=>h.elim) (fun h=>by have:=hx10.size;first|omega|(simp at h;omega))));obtain ⟨x0,x1,x2,x3,x4,x5,x6,x7,x8,y9,x10⟩:=HKB.out w10 hx10;(have A10:∀ q,(w10.alloc q).cell? ⟨w.heap.size+1,2,none⟩=some v:=fun q=>cell_below ((Below.refl _ _).alloc (Nat.le_refl _) q) x10);have HE2:=Lib.hid he2;have HW2:=Lib.hid hw2;clear hr2 he2 hw2 hb10)
     | (refine step_appM (v:=v) (f:=g) (B:=w.heap.size+2) (L:=fun k=>w.heap.size+2≤k) (sv:=.slice (some ⟨w10.heap.size,0,none⟩) 1 1) (g:=.cons (sl nm) j9 .nil) (S1:=fun k=>wr.heap.size≤k) (by rfl) _ _ (by rfl) (by rfl) (HO.out.keep ?_) (by rfl) (SrcM.one (HXI.out.below ?_) HNM.out (new_cells _ _ _ _ rfl)) HFS.out (by simp [M.len];omega) (by first|omega|(simp;omega)) ?_;(case _=>(repeat' (first|with_reducible assumption|with_reducible refine Below.drew ?_|with_reducible refine Below.alloc ?_ (by first|omega|exact Nat.le_refl _|(simp;done)|(simp;omega)) _|with_reducible exact Below.refl _ _)));(case _=>(repeat' (first|with_reducible assumption|with_reducible refine Below.drew ?_|with_reducible refine Below.alloc ?_ (by first|omega|exact Nat.le_refl _|(simp;done)|(simp;omega)) _|with_reducible exact Below.refl _ _)));intro v5 w5 ho5 ha5;(have HC5o:Hid (Chg (fun k=>v.ownBlock=some k) wr w5):=(Chg.of_below (a:=wr) (by (repeat' (first|with_reducible assumption|with_reducible refine Below.drew ?_|with_reducible refine Below.alloc ?_ (by first|omega|exact Nat.le_refl _|(simp;done)|(simp;omega)) _|with_reducible exact Below.refl _ _)))).trans ha5.chg (fun i _ e=>e));obtain ⟨s4,s5⟩:=HQ.out _ HC5o.out;obtain ⟨a5,c5,hv5,-⟩:=OwnM.reads ho5 (fun k hk=>hk);subst hv5;obtain ⟨N5,hN5⟩:∃ N,N=(g.append (.cons (sl nm) j9 .nil)).len:=⟨_,rfl⟩;rw [← hN5] at ho5 ha5 ⊢;(have HN5:=Lib.hid hN5);(have HO5:=Lib.hid ho5);clear ho5 ha5 hN5)
     | fail))
   all_goals
    have HFIN:=Lib.hid (jp_next (nk:=nk) (f:=f) hlt HO5.out HC5o.out HFAR.out HB0.out HB1.out HBW.out hgl HGE.out HGW.out HWT.out HNOK.out HNM.out HE2.out HW2.out)
    go_wp2_with fail
    exact ⟨HFIN.out,by simp [intOf];omega⟩
  ·obtain ⟨aR,cR,rfl,hrd,hro,hle⟩:=OwnM.reads HO.out (fun k hk=>hk)
   have hjn:decide ((j:Int) < (nk:Int))=false:=by simp;omega
   have HJ:Hid (JV (fun k=>False∨w.heap.size+1≤k) (2+80 * f.wt) wr (.agg (jCells 7 ⟨#[]⟩ aR g.len cR))):=Lib.hid (jv_obj (hrd.imp (fun i _ h=>.inr (by omega))) rfl hle hro HGE.out (by have:=HGW.out;omega))
   obtain ⟨N,hN⟩:∃ N,N=g.len:=⟨_,rfl⟩
   rw [← hN] at HJ HB1
   obtain ⟨p0,p1,p2,r0,r1,r2,r3⟩:=HB0.out.three
   have q0:wr.cell? ⟨w.heap.size+1,0,none⟩=some (.int .i64 7):=(HB1.out.2 0 (by omega)).1
   have q1:wr.cell? ⟨w.heap.size+1,1,none⟩=some (.string ⟨#[]⟩):=(HB1.out.2 1 (by omega)).1
   have q2:wr.cell? ⟨w.heap.size+1,2,none⟩=some (.slice aR N cR):=(HB1.out.2 2 (by omega)).1
   clear hgl hN hrd hro hle
   go_wp2_with fail
   refine bodyPost_ret (v:=.agg (jCells 7 ⟨#[]⟩ aR N cR)) (by simp [results,Tryz.results33,go_sem, *]) rfl ?_
   refine ⟨⟨_,_,_,rfl⟩,?_⟩
   refine jo_fin (g:=w.heap.size) (S:=fun _=>False) (fun _ h=>h.elim) (Nat.le_refl _) HJ.out (Nat.le_refl _) HBW.out ?_
   iterate 3 (refine Chg.set2 ?_ (by exact rfl) _ _)
   exact Chg.refl _ _
theorem plain25_calls (d:Nat) (hof:ValSaid d) (f:F) (ez:Bool) (w:World) (a:Option Addr) (nk ck:Nat) (hk:RdKs w a 0 f) (hl:f.len=nk) (hw:f.wt≤d) (hd:d≤40000) (hok:OkF f) :
  Calls Tryz.prog 33 #[.slice a nk ck,.bool ez] w (JO (fun _=>False) (2+80 * f.wt) w):=
 (plain25_kind d hof f ez w a nk ck hk hl hw hd hok).mono fun _ _ h=>h.2
end Go.Proofs.YtmooaepbdmengaaGreatDoor
