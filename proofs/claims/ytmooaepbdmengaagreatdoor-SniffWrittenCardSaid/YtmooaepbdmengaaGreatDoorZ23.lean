/- Parts of the proof of SniffWritten: Dep, DepR, MtH, MtI. -/
import Derived.Test.YtmooaepbdmengaaGreatDoorZ05
import Derived.Test.YtmooaepbdmengaaGreatDoorZ21
import Derived.Test.YtmooaepbdmengaaGreatDoorZ22
import Derived.Test.YtmooaepbdmengaaGreatDoorZ15
import Derived.Test.YtmooaepbdmengaaGreatDoorZ17
namespace Go.Proofs.YtmooaepbdmengaaGreatDoor
open Go.RowKit
set_option linter.unusedVariables false
set_option linter.unusedSimpArgs false
def isK (k:Int):Bool:=k == 3 || k == 4 || k == 15
mutual
def depT:T→Nat
 | .mk k _ _ _ _ _ _ _ kids=>bif isK k then depF kids+1 else 0
def depF:F→Nat
 | .nil=>0
 | .cons _ t r=>max (depT t) (depF r)
end
mutual
theorem depT_wt:∀ t:T,depT t+1≤t.wt
 | .mk k _ _ _ _ _ _ _ kids=>by
  have:=depF_wt kids
  simp only [depT,T.wt]
  cases isK k<;>simp<;>omega
theorem depF_wt:∀ f:F,depF f≤f.wt
 | .nil=>by simp [depF]
 | .cons n t r=>by
  have h1:=depT_wt t
  have h2:=depF_wt r
  simp only [depF,F.wt]
  omega
end
theorem depF_get (f:F) (i:Nat) (n:ByteArray) (t:T) (h:f.get? i=some (n,t)):depF (f.drop i)=max (depT t) (depF (f.drop (i+1))):=by
 rw [F.drop_get f i n t h];rfl
def DepRel (B:Nat) (W:World) (kids:F) (nk:Nat) (q i:Value) (wr:World):Prop:=
 ∃ (j s:Nat),j≤nk∧i=.int .i64 j∧q=.int .i64 s∧s≤1000000000∧max s (depF (kids.drop j))=depF kids∧Below B W wr
def DepSaid (g:Nat) (d:Nat):Prop:=∀ (t:T),t.wt≤d→∀ (w:World) (c:Array Value),RdT w t c→Calls Tryz.prog g #[.agg c] w fun e w'=>e=.returned (.int .i64 (depT t:Nat))∧Below w.heap.size w w'
set_option maxRecDepth 100000 in
set_option maxHeartbeats 1000000 in
theorem kids_calls (k:Int) (w:World):Calls Tryz.prog 41 #[.int .i64 k] w fun e w'=>e=.returned (.bool (isK k))∧w=w':=by
 by_cases h1:k=3
 ·subst h1
  go_enter Tryz.func41,Tryz.ntmps41
  go_wp2_with fail
  go_ret
  exact ⟨rfl,rfl⟩
 by_cases h2:k=4
 ·subst h2
  go_enter Tryz.func41,Tryz.ntmps41
  go_wp2_with fail
  go_ret
  exact ⟨rfl,rfl⟩
 by_cases h3:k=15
 ·subst h3
  go_enter Tryz.func41,Tryz.ntmps41
  go_wp2_with fail
  go_ret
  exact ⟨rfl,rfl⟩
 have n1:(k == 3)=false:=by simp;omega
 have n2:(k == 4)=false:=by simp;omega
 have n3:(k == 15)=false:=by simp;omega
 have HI:Hid (isK k=false):=by show isK k=false;unfold isK;rw [n1,n2,n3];rfl
 clear h1 h2 h3
 go_enter Tryz.func41,Tryz.ntmps41
 go_wp2_with fail
 go_ret
 exact ⟨by rw [HI.out];rfl,rfl⟩
set_option maxRecDepth 100000 in
set_option maxHeartbeats 4000000 in
theorem rdep_step (d:Nat) (hd:d≤1000000000) (hof:DepSaid 23 d):DepSaid 23 (d+1):=by
 intro t ht w c h
 obtain ⟨k,bits,hi,lo,text,more,sub,bs,kids⟩:=t
 obtain ⟨ab,nb,cb,ak,nk,ck,rfl,hok,hrb,hkl,hnk,hks⟩:=h
 have hkd:kids.wt≤d:=by simp only [T.wt] at ht;omega
 have hkb:=depF_wt kids
 have HO:=Lib.hid hof
 have HKS:=Lib.hid hks
 have HL:=Lib.hid hkl
 have HF:Hid (depT (.mk k bits hi lo text more sub bs kids)=bif isK k then depF kids+1 else 0):=by
  show depT _=_
  simp only [depT]
 clear hof hok hrb hkl hks ht
 generalize depT (.mk k bits hi lo text more sub bs kids)=r at HF
 by_cases h3:k=3∨k=4∨k=15
 ·have HT:Hid (r=depF kids+1):=by
   show _=_
   rw [HF.out];rcases h3 with rfl|rfl|rfl<;>rfl
  clear HF
  rcases h3 with rfl|rfl|rfl
  all_goals
   go_enter Tryz.func23,Tryz.ntmps23
   go_wp2_with fail
   refine (kids_calls _ _).mono ?_
   rintro e w1 ⟨rfl,rfl⟩
   go_wp2_with fail
   go_loopw [3,4] (fun q i wr=>DepRel (w.heap.size+1) (w.alloc (.cells (valCells _ bits hi lo text more sub ab nb cb ak nk ck) 26)) kids nk q i wr) (fun _ i _=>nk - (intOf i).toNat)
   case atStart=>exact ⟨0,0,by omega,rfl,rfl,by omega,by simp [F.drop],Below.refl _ _⟩
   case round=>
    obtain ⟨j,s,hj,rfl,rfl,b0,hr,hbl⟩:=hrel
    have f0:=below_cell2 (p:=⟨w.heap.size,0,none⟩) hbl (by simp [go_sem,valCells];rfl) (by simp)
    have f8:wr.cell? ⟨w.heap.size,8,none⟩=some (.slice ak nk ck):=below_cell2 hbl (by simp [go_sem,valCells]) (by simp)
    have hsz:w.heap.size+1≤wr.heap.size:=by have:=hbl.size;simp at this;omega
    have HKW:=Lib.hid (HKS.out.keep (((Below.refl w.heap.size w).alloc (Nat.le_refl _) _).trans (hbl.mono (by omega))))
    have HBW:=Lib.hid hbl
    clear hbl
    by_cases hlt:j < nk
    ·obtain ⟨⟨nm,t⟩,hx⟩:=F.get_some kids j (by rw [HL.out];exact hlt)
     have hw:=F.wt_get kids j nm t hx
     have hg:=depF_get kids j nm t hx
     have hb1:=depT_wt t
     obtain ⟨b,o,k',bits',hi',lo',text',more',sub',bs',kids',ab',nb',cb',ak',nk',ck',rfl,rfl,e1,e2,e3,g0,g1,g2,g3,g4,g5,g6,g7,g8,g9⟩:=(HKW.out.at hx).cells
     have HC:=Lib.hid (HO.out _ (show T.wt (.mk k' bits' hi' lo' text' more' sub' bs' kids')≤d by omega))
     have E3:=Lib.hid e3
     rw [hg] at hr
     have hz:depT (.mk k' bits' hi' lo' text' more' sub' bs' kids')≤1000000000:=by omega
     have HR:=Lib.hid hr
     clear hx hg hr e3 hw hb1
     generalize depT (.mk k' bits' hi' lo' text' more' sub' bs' kids')=z at HC HR hz
     have hj0:(0:Int)≤(j:Int):=by omega
     have hj1:(j:Int) < (nk:Int):=by omega
     go_wp2_with (go_at_call 23;refine (HC.out _ _ ?_).mono ?_;(exact E3.out.keep (Below.refl _ _));rintro e w' ⟨rfl,hb⟩)
     all_goals
      go_wp2_with fail
      go_roundw
      case rel=>exact ⟨j+1,max s z,by omega,by simp,by first|rfl|(congr 1;omega)|(simp;omega),by omega,by have:=HR.out;omega,HBW.out.trans (hb.mono hsz)⟩
      case measure=>simp [intOf];omega
    ·have hf:Hid (depF kids=s):=by
      show depF kids=s
      rw [← hr,F.drop_len kids j (by rw [HL.out];omega)]
      simp [depF]
     clear hr
     go_wp2_with fail
     go_ret
     exact ⟨by rw [HT.out,hf.out];rfl,((Below.refl w.heap.size w).alloc (Nat.le_refl _) _).trans (HBW.out.mono (by omega))⟩
 ·have n1:(k == 3)=false:=by simp;omega
  have n2:(k == 4)=false:=by simp;omega
  have n3:(k == 15)=false:=by simp;omega
  have m1:(k != 3)=true:=by simp;omega
  have m2:(k != 4)=true:=by simp;omega
  have m3:(k != 15)=true:=by simp;omega
  have HT:Hid (r=0):=by
   show _=_
   rw [HF.out];unfold isK;rw [n1,n2,n3];rfl
  have i0:isK k=false:=by unfold isK;rw [n1,n2,n3];rfl
  clear h3 HF
  go_enter Tryz.func23,Tryz.ntmps23
  go_wp2_with fail
  refine (kids_calls _ _).mono ?_
  rintro e w1 ⟨rfl,rfl⟩
  go_wp2_with fail
  all_goals
   go_ret
   exact ⟨by rw [HT.out];rfl,(Below.refl _ _).alloc (Nat.le_refl _) _⟩
theorem rdep_all:∀ d,d≤1000000001→DepSaid 23 d
 | 0,_=>fun t ht=>by cases t;simp only [T.wt] at ht;omega
 | d+1,h=>rdep_step d (by omega) (rdep_all d (by omega))
set_option maxHeartbeats 1000000 in
theorem mtem_step (d:Nat) (hd:d < 40000) (h:MtSaid d):MtSaid (d+1):=by
 intro t ht hok S0 w c hS hr
 cases t with
 | mk k bits hi lo text more sub bs f=>
  obtain ⟨ab,nb,cb,ak,nk,ck,rfl,ho,hb,hl,⟨hn9,hra,hrb⟩,hk⟩:=hr
  obtain ⟨hkk,hf,ht1,ht2,hF⟩:=hok
  obtain ⟨-,hb1,hb2,hb3,hs1,hs2,-⟩:=ho
  have hwt:(T.mk k bits hi lo text more sub bs f).wt=2+text.size+more.size+bs.length+f.wt:=rfl
  have a1:=whole_of_ok ht1
  have a2:=whole_of_ok ht2
  have hfd:f.wt≤d:=by omega
  have hm:∀ W,Below w.heap.size w W→Calls Tryz.prog 24 #[.slice ak nk ck] W (MuOut S0 f W):=fun W hW=>
   mapped29_calls d h f S0 W ak nk ck (fun i hi=>Nat.lt_of_lt_of_le (hS i hi) hW.size) (hk.keep (KeepS.below hW)) hl hfd (by omega) hF
  have h2:2≤(T.mk k bits hi lo text more sub bs f).wt:=by omega
  have hwf:f.wt+2≤(T.mk k bits hi lo text more sub bs f).wt:=by omega
  have hwb:bs.length+2≤(T.mk k bits hi lo text more sub bs f).wt:=by omega
  have hwx:text.size+2≤(T.mk k bits hi lo text more sub bs f).wt:=by omega
  have h40:(T.mk k bits hi lo text more sub bs f).wt≤40000:=by omega
  rcases knownK_cases hkk with rfl|rfl|rfl|rfl|rfl|rfl|rfl|rfl|rfl|rfl|rfl|rfl|rfl|rfl|rfl|rfl|rfl|rfl|rfl|rfl|rfl
  ·exact mtem_1 S0 _ w bits hi lo text more sub ab nb cb ak nk ck hb1
  ·exact mtem_2 S0 _ w hS bits hi lo text more sub ab nb cb ak nk ck hs1 hwx a1
  ·exact mtem_3 S0 _ w hS bits hi lo text more sub ab nb cb ak nk ck f hm hwf
  ·exact mtem_4 d h S0 _ w hS bits hi lo text more sub ab nb cb ak nk ck f hm hk hl hfd (by omega) hF hwf
  ·obtain ⟨q1,q2⟩:=fieldsOf_sub hf
   by_cases e:sub=0
   ·subst e
    exact mtem_5 S0 _ w hS bits hi lo text more 0 ab nb cb ak nk ck bs hb hrb hwb
   ·obtain ⟨m,rfl⟩:∃ m:Nat,sub=(m:Nat):=⟨sub.toNat,by omega⟩
    exact mtem_5b S0 _ w hS bits hi lo text more 0 ab nb cb ak nk ck m (by omega) (by omega) bs hb hrb hwb (by omega)
  ·exact mtem_6 S0 _ w hS bits hi lo text more sub ab nb cb ak nk ck h2
  ·exact mtem_7 S0 _ w hS bits hi lo text more sub ab nb cb ak nk ck bs hb hrb hwb
  ·exact mtem_8 S0 _ w bits hi lo text more sub ab nb cb ak nk ck (fieldsOf_bool hf)
  ·exact mtem_9 S0 _ w hS bits hi lo text more sub ab nb cb ak nk ck h2 hb1
  ·exact mtem_10 S0 _ w bits hi lo text more sub ab nb cb ak nk ck
  ·exact mtem_11 S0 _ w hS bits hi lo text more sub ab nb cb ak nk ck (by omega) h40
  ·exact mtem_12 S0 _ w hS bits hi lo text more sub ab nb cb ak nk ck bs hb hrb (by omega) (by omega)
  ·exact mtem_13 S0 _ w hS bits hi lo text more sub ab nb cb ak nk ck (by omega) hwx
  ·exact mtem_14 S0 _ w hS bits hi lo text more sub ab nb cb ak nk ck (by omega) hwx
  ·exact mtem_15 S0 _ w hS bits hi lo text more sub ab nb cb ak nk ck f hm (by omega) h40
  ·exact mtem_16 S0 _ w hS bits hi lo text more sub ab nb cb ak nk ck h2
  ·exact mtem_17 S0 _ w hS bits hi lo text more sub ab nb cb ak nk ck h2 hb1
  ·exact mtem_18 S0 _ w hS bits hi lo text more sub ab nb cb ak nk ck h2 hb1
  ·exact mtem_19 S0 _ w hS bits hi lo text more sub ab nb cb ak nk ck h2 hb2 hb3
  ·exact mtem_127 S0 _ w hS bits hi lo text more sub ab nb cb ak nk ck h2
  ·exact mtem_255 S0 _ w hS bits hi lo text more sub ab nb cb ak nk ck h2
theorem mtem_all:∀ d,d≤40000→MtSaid d
 | 0,_=>fun t ht=>by have:2≤t.wt:=(by cases t;simp only [T.wt];omega);omega
 | d+1,hd=>mtem_step d (by omega) (mtem_all d (by omega))
def DocMt (f:F) (w:World) (e:Ending) (w':World):Prop:=
 (e=.returned (.tuple #[.agg (itCells 0 0 none 0 0 ⟨#[]⟩ none 0 0),.agg #[.int .i64 8,.int .i64 0,.slice none 0 0]])∧Below w.heap.size w w') ∨
 ∃ (a:Option Addr) (n c:Nat) (g:IL),e=.returned (.tuple #[.agg (itCells 6 0 none 0 0 ⟨#[]⟩ a n c),.agg #[.int .i64 0,.int .i64 0,.slice none 0 0]])∧RdIt (fun _=>True) w' (.mk 6 0 [] emB g) (itCells 6 0 none 0 0 ⟨#[]⟩ a n c)∧OkM (.mk 6 0 [] emB g)∧hdT g∧szMs g≤20 * f.wt∧Below w.heap.size w w'
set_option maxRecDepth 100000 in
set_option maxHeartbeats 4000000 in
theorem item29_calls (w:World) (bits hi lo:Nat) (text more:ByteArray) (sub:Int) (bs:List UInt8) (f:F) (c:Array Value) (h:RdT w (.mk 3 bits hi lo text more sub bs f) c) (hw:(T.mk 3 bits hi lo text more sub bs f).wt≤40000)
  (hc:chk (.mk 3 bits hi lo text more sub bs f)=none):Calls Tryz.prog 10 #[.agg c] w (DocMt f w):=by
 have CK:=Lib.hid (fun W (hW:Below w.heap.size w W)=>rcheck2_calls _ W c (h.keep hW) (by omega))
 have CD:=Lib.hid (fun W (hW:Below w.heap.size w W)=>rdep_all 40000 (by omega) _ hw W c (h.keep hW))
 obtain ⟨D,hD⟩:∃ D,D=depT (.mk 3 bits hi lo text more sub bs f):=⟨_,rfl⟩
 rw [← hD] at CD
 have hok:=OkT.of _ _ _ hc
 have hs:=RdTS.of h
 obtain ⟨ab,nb,cb,ak,nk,ck,rfl,ho,hb,hl,⟨hn9,hra,hrb⟩,hk⟩:=hs
 have hwf:f.wt < 40000:=by simp only [T.wt] at hw;omega
 have HM:=Lib.hid (fun W (hW:Below w.heap.size w W)=>mapped29_calls f.wt (mtem_all f.wt (by omega)) f (fun k=>k < w.heap.size) W ak nk ck (fun i hi=>Nat.lt_of_lt_of_le hi hW.size) (hk.keep (KeepS.below hW)) hl (Nat.le_refl _) (by omega) hok.1.2.2.2.2)
 have HCN:=Lib.hid hc
 obtain ⟨wa,hwa⟩:∃ W,W=(((w.alloc (.cells (valCells 3 bits hi lo text more sub ab nb cb ak nk ck) 26)).alloc (.cells #[.int .i64 0,.int .u64 0,.slice none 0 0,.string ⟨#[]⟩,.slice none 0 0] 39)).alloc (.cells #[.int .i64 0,.int .i64 0,.slice none 0 0] 32)):=⟨_,rfl⟩
 have HB3:Hid (BoxI wa (w.heap.size+1) z5∧FBox wa (w.heap.size+2)∧Below w.heap.size w wa):=Lib.hid (by rw [hwa];exact three_boxes w _)
 have HBV:Hid (BoxV wa w.heap.size (valCells 3 bits hi lo text more sub ab nb cb ak nk ck)):=Lib.hid (by rw [hwa];exact (BoxV.new w _ _).keep (((Below.refl _ _).alloc (Nat.le_refl _) _).alloc (by simp) _))
 clear h hw hc hok ho hb hl hn9 hra hrb hk hwf hD
 obtain ⟨f0,f1,f2,f3,f4,f5,f6,f7,f8,l0⟩:=HBV.out.nine
 go_enter Tryz.func10,Tryz.ntmps10
 go_upto_region 1 with fail
 rw [← hwa]
 clear hwa
 go_wp2_with fail
 refine (CK.out _ HB3.out.2.2).mono ?_
 rintro e w1 ⟨aP,nP,cP,rfl,hnP,hmP,hrP,hcP,hb1⟩
 have hE:errN (chk (.mk 3 bits hi lo text more sub bs f))=0:=by rw [HCN.out];rfl
 rw [hE]
 have HBW1:=Lib.hid (HB3.out.2.2.trans (hb1.mono HB3.out.2.2.size))
 have HBV1:=Lib.hid (HBV.out.keep hb1)
 have HX1:=Lib.hid (HB3.out.1.keep hb1)
 have HF1:=Lib.hid (HB3.out.2.1.keep hb1)
 clear hnP hmP hrP hcP hb1 hE f0 f1 f2 f3 f4 f5 f6 f7 f8 l0
 obtain ⟨f0,f1,f2,f3,f4,f5,f6,f7,f8,l0⟩:=HBV1.out.nine
 go_wp2_with fail
 refine (CD.out _ HBW1.out).mono ?_
 rintro e w2 ⟨rfl,hb2⟩
 have HBW2:=Lib.hid (HBW1.out.trans (hb2.mono HBW1.out.size))
 have HBV2:=Lib.hid (HBV1.out.keep hb2)
 have HX2:=Lib.hid (HX1.out.keep hb2)
 have HF2:=Lib.hid (HF1.out.keep hb2)
 clear hb2 f0 f1 f2 f3 f4 f5 f6 f7 f8 l0
 obtain ⟨f0,f1,f2,f3,f4,f5,f6,f7,f8,l0⟩:=HBV2.out.nine
 by_cases hdp:200 < D
 ·have d0:decide ((200:Int) < (D:Int))=true:=by simp;omega
  clear hdp
  obtain ⟨p0,p1,p2,p3,p4,r0,r1,r2,r3,r4,r5⟩:=HX2.out.zs
  obtain ⟨q0,q1,q2,t0,t1,t2,t3⟩:=HF2.out
  have HFN:Hid (∀ W',Chg (fun k=>k=w.heap.size+1∨k=w.heap.size+2) w2 W'→DocMt f w (.returned (.tuple #[.agg (itCells 0 0 none 0 0 ⟨#[]⟩ none 0 0),.agg #[.int .i64 8,.int .i64 0,.slice none 0 0]])) W'):=Lib.hid fun W' hC=>.inl ⟨rfl,HBW2.out.trans (hC.below HBW2.out.size (fun i hi=>by omega))⟩
  go_wp2_with fail
  refine bodyPost_ret (v:=.tuple #[.agg (itCells 0 0 none 0 0 ⟨#[]⟩ none 0 0),.agg #[.int .i64 8,.int .i64 0,.slice none 0 0]]) (by simp [results,Tryz.results10,go_sem, *]) rfl ?_
  refine HFN.out _ ?_
  (repeat' (first|with_reducible exact Chg.refl _ _|with_reducible refine Chg.setCell ?_ (fun h=>?_) _))
  all_goals (dsimp only;omega)
 have d0:decide ((200:Int) < (D:Int))=false:=by simp;omega
 clear hdp
 go_wp2_with fail
 refine (HM.out _ HBW2.out).mono ?_
 rintro e w3 ⟨a9,n9,c9,g9,rfl,hs,hr9,hl9,hn9,hev,hge,hgw,hb3⟩
 have HBW3:=Lib.hid (HBW2.out.trans (hb3.mono HBW2.out.size))
 have HX3:=Lib.hid (HX2.out.keep hb3)
 have HF3:=Lib.hid (HF2.out.keep hb3)
 have HIT:Hid (RdIt (fun k=>¬ (k=w.heap.size+1∨k=w.heap.size+2)) w3 (.mk 6 0 [] emB g9) (itCells 6 0 none 0 0 ⟨#[]⟩ a9 n9 c9)):=Lib.hid (rdit_map (RdIs.imp (fun i _ h=>by have hz:=HF2.out.2.2.2.2.2.2;rcases h with h|h<;>omega) hs) hl9 hn9 hr9)
 have HE:Hid (OkM (I.mk 6 0 [] emB g9)):=Lib.hid (ok_map g9 (by omega) hge)
 have HH:=Lib.hid (show hdT g9∧szMs g9≤20 * f.wt from ⟨hev.2,hgw⟩)
 clear hs hr9 hl9 hn9 hev hge hgw hb3 f0 f1 f2 f3 f4 f5 f6 f7 f8 l0
 obtain ⟨p0,p1,p2,p3,p4,r0,r1,r2,r3,r4,r5⟩:=HX3.out.zs
 obtain ⟨q0,q1,q2,t0,t1,t2,t3⟩:=HF3.out
 have HFN:Hid (∀ W',Chg (fun k=>k=w.heap.size+1∨k=w.heap.size+2) w3 W'→DocMt f w (.returned (.tuple #[.agg (itCells 6 0 none 0 0 ⟨#[]⟩ a9 n9 c9),.agg #[.int .i64 0,.int .i64 0,.slice none 0 0]])) W'):=Lib.hid fun W' hC=>
  .inr ⟨a9,n9,c9,g9,rfl,(HIT.out.keep (KeepS.chg hC (fun k hk=>hk))).imp (fun _ _ _=>trivial),HE.out,HH.out.1,HH.out.2,HBW3.out.trans (hC.below HBW3.out.size (fun i hi=>by omega))⟩
 go_wp2_with fail
 refine bodyPost_ret (v:=.tuple #[.agg (itCells 6 0 none 0 0 ⟨#[]⟩ a9 n9 c9),.agg #[.int .i64 0,.int .i64 0,.slice none 0 0]]) (by simp [results,Tryz.results10,go_sem, *]) rfl ?_
 refine HFN.out _ ?_
 (repeat' (first|with_reducible exact Chg.refl _ _|with_reducible refine Chg.setCell ?_ (fun h=>?_) _))
 all_goals (dsimp only;omega)
def EncZ (w:World) (e:Ending) (w':World):Prop:=e=.returned (.tuple #[.slice none 0 0,.int .i64 5])∧Below w.heap.size w w'
set_option maxRecDepth 100000 in
set_option maxHeartbeats 4000000 in
theorem own29_zero (w:World):Calls Tryz.prog 44 #[.agg (itCells 0 0 none 0 0 ⟨#[]⟩ none 0 0)] w fun e w'=>e=.returned (.int .i64 5)∧Below w.heap.size w w':=by
 go_enter Tryz.func44,Tryz.ntmps44
 go_wp2_with fail
 go_ret
 exact ⟨rfl,(Below.refl _ _).alloc (Nat.le_refl _) _⟩
set_option maxRecDepth 100000 in
set_option maxHeartbeats 4000000 in
theorem chk29_zero (w:World):Calls Tryz.prog 25 #[.agg (itCells 0 0 none 0 0 ⟨#[]⟩ none 0 0)] w fun e w'=>e=.returned (.int .i64 5)∧Below w.heap.size w w':=by
 have CO:=Lib.hid (fun W=>own29_zero W)
 obtain ⟨wa,hwa⟩:∃ W,W=w.alloc (.cells #[.int .i64 0,.int .u64 (0:Nat),.slice none 0 0,.string ⟨#[]⟩,.slice none 0 0] 39):=⟨_,rfl⟩
 obtain ⟨gb,hgb⟩:∃ q,q=w.heap.size:=⟨_,rfl⟩
 have HBA:Hid (Below w.heap.size w wa):=Lib.hid (by rw [hwa];exact (Below.refl _ _).alloc (Nat.le_refl _) _)
 have hxa:ItBx wa gb 0 0 none 0 0 ⟨#[]⟩ none 0 0:=by rw [hwa,hgb];exact ItBx.new _ _ _ _ _ _ _ _ _ _ _
 have HXa:=Lib.hid hxa
 obtain ⟨f0,f1,f2,f3,f4,l0⟩:=hxa
 go_enter Tryz.func25,Tryz.ntmps25
 go_upto_region 1 with fail
 rw [← hwa,← hgb]
 clear hwa hgb
 go_wp2_with fail
 refine (CO.out _).mono ?_
 rintro e w1 ⟨rfl,hb1⟩
 have HB1:=Lib.hid (HBA.out.trans (hb1.mono HBA.out.size))
 clear f0 f1 f2 f3 f4 l0
 obtain ⟨f0,f1,f2,f3,f4,l0⟩:=HXa.out.keep hb1
 clear hb1
 go_wp2_with fail
 go_loopw [3,4] (fun q i wr=>i=.int .i64 0∧q=.int .i64 5∧wr=w1) (fun _ i _=>0)
 case atStart=>exact ⟨rfl,rfl,rfl⟩
 case round=>
  obtain ⟨rfl,rfl,rfl⟩:=hrel
  go_wp2_with fail
  go_ret
  exact ⟨rfl,HB1.out⟩
set_option maxRecDepth 100000 in
set_option maxHeartbeats 4000000 in
theorem enc29_zero (w:World):Calls Tryz.prog 11 #[.agg (itCells 0 0 none 0 0 ⟨#[]⟩ none 0 0)] w (EncZ w):=by
 have CO:=Lib.hid (fun W=>chk29_zero W)
 have HBA:Hid (Below w.heap.size w (w.alloc (.cells #[.int .i64 0,.int .u64 (0:Nat),.slice none 0 0,.string ⟨#[]⟩,.slice none 0 0] 39))):=Lib.hid ((Below.refl _ _).alloc (Nat.le_refl _) _)
 go_enter Tryz.func11,Tryz.ntmps11
 go_wp2_with fail
 refine (CO.out _).mono ?_
 rintro e w1 ⟨rfl,hb1⟩
 have HB1:=Lib.hid (HBA.out.trans (hb1.mono HBA.out.size))
 clear hb1
 go_wp2_with fail
 go_ret2
 exact ⟨rfl,HB1.out⟩
end Go.Proofs.YtmooaepbdmengaaGreatDoor
