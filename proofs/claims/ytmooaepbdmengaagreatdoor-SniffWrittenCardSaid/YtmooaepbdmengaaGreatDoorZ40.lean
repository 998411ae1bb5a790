/- Parts of the proof of SniffWritten: Wr. -/
import Derived.Test.YtmooaepbdmengaaGreatDoorZ39
import Derived.Test.YtmooaepbdmengaaGreatDoorZ24
import Derived.Test.YtmooaepbdmengaaGreatDoorZ38
import Derived.Test.YtmooaepbdmengaaGreatDoorZ23
import Derived.Test.YtmooaepbdmengaaGreatDoorZ05
import Derived.Test.YtmooaepbdmengaaGreatDoorZ02
namespace Go.Proofs.YtmooaepbdmengaaGreatDoor
open Go.RowKit
set_option linter.unusedVariables false
set_option linter.unusedSimpArgs false
theorem conv_max (w:World) (s:ByteArray) (hs:s.size≤1000000):∃ cap w',(convert 9 23 (.string s)).run Tryz.prog w=.ok (.slice (some ⟨w.heap.size,0,none⟩) s.size cap) w'∧Below w.heap.size w w' ∧
  RdB w' (some ⟨w.heap.size,0,none⟩) s.size (sl s)∧s.size≤cap∧cap≤9223372036854775807:=by
 have hr:=run_bytes_of_string (P:=Tryz.prog) w 9 23 5 s Tryz.underlying9 Tryz.underlying23 Tryz.underlying5
 have hcap:=grownCap_ge w s.size 0 5
 have hmax:=grownCap_le_maxLen w s.size 0 5 (by unfold maxLen;omega)
 obtain ⟨cap2,w2,hr2,hb2,-,hR2,-,-⟩:=conv_bytes w s (by omega)
 have e:=hr.symm.trans hr2
 refine ⟨cap2,w2,hr2,hb2,hR2,?_⟩
 generalize grownCap w s.size 0 5=cap at hr hcap hmax e
 have hbs:(bytesRow s cap).size=cap:=by unfold bytesRow;simp;omega
 rw [hbs] at e
 injection e with e1 e2
 simp only [Value.slice.injEq] at e1
 obtain ⟨-,-,rfl⟩:=e1
 unfold maxLen at hmax
 exact ⟨hcap,hmax⟩
theorem wt_smallZ {t:T} (h:smallT t=true):t.wt≤1200:=by
 have h0:0≤bookT 1200 t:=by simpa [smallT] using h
 have:=bookT_wt _ _ h0
 omega
theorem enc_zeroZ {t:T} (h:encE t=0):chk t=none∧t.kind=3:=by
 unfold encE at h
 cases hc:chk t with
 | none=>
  rw [hc] at h
  refine ⟨rfl,?_⟩
  by_cases h3:t.kind=3
  ·exact h3
  ·simp [h3] at h
 | some q=>
  obtain ⟨q,e⟩:=q
  have:=checkT_err t ⟨#[]⟩ [] q e hc
  rw [hc] at h
  have h1:e=0:=h
  omega
def GuO (n:Int) (w:World) (e:Ending) (w':World):Prop:=e=.returned (.int .i64 n)∧Below w.heap.size w w'
theorem guess_is (N:Nat) {a:Option Addr} {n cap:Nat} {L:List UInt8} {w:World} (h:RdB w a n L) (hc:n≤cap∧cap≤9223372036854775807) (hn:n≤1000000) (hg:guessN L=N):Calls Tryz.prog 12 #[.slice a n cap] w (GuO (N:Nat) w):=
 (guess_calls a n cap L w h hc.1 hc.2 hn).mono fun _ _ h9=>⟨by rw [← hg];exact h9.1,h9.2⟩
set_option maxRecDepth 100000 in
set_option maxHeartbeats 8000000 in
theorem SniffWritten_walk (w:World) (c:Array Value) (t:T) (h:RdT w t c) :
  Calls Tryz.prog 3 #[.agg c] w fun e w'=>e=.returned (.bool true)∧Below w.heap.size w w':=by
 cases t with
 | mk k bits hi lo text more sub bs f=>
 have hs0:=h
 obtain ⟨ab,nb,cb,ak,nk,ck,rfl,-⟩:=hs0
 obtain ⟨wa,hwa⟩:∃ W,W=w.alloc (.cells (valCells k bits hi lo text more sub ab nb cb ak nk ck) 26):=⟨_,rfl⟩
 have hba:Below w.heap.size w wa:=by rw [hwa];exact (Below.refl _ _).alloc (Nat.le_refl _) _
 have hxa:BoxV wa w.heap.size (valCells k bits hi lo text more sub ab nb cb ak nk ck):=by rw [hwa];exact BoxV.new _ _ _
 have HBX:Hid (∀ W,Below wa.heap.size wa W→BoxV W w.heap.size (valCells k bits hi lo text more sub ab nb cb ak nk ck)):=Lib.hid fun W hW=>hxa.keep hW
 have HBA:=Lib.hid hba
 have HT:Hid (∀ W,Below wa.heap.size wa W→RdT W (.mk k bits hi lo text more sub bs f) (valCells k bits hi lo text more sub ab nb cb ak nk ck)):=Lib.hid fun W hW=>(h.keep hba).keep hW
 have CS:=Lib.hid (fun W h=>small_calls (.mk k bits hi lo text more sub bs f) W (valCells k bits hi lo text more sub ab nb cb ak nk ck) h)
 have HB_wa_wa:=Lib.hid (Below.refl wa.heap.size wa)
 obtain ⟨f0,f1,f2,f3,f4,f5,f6,f7,f8,l0⟩:=hxa.nine
 clear hba hxa h
 cases hs:smallT (.mk k bits hi lo text more sub bs f) with
 | false=>
  rw [hs] at CS
  clear hs
  go_enter Tryz.func3,Tryz.ntmps3
  go_upto_region 1 with fail
  rw [← hwa]
  clear hwa
  go_wp2_with fail
  refine (awake32 _).mono ?_
  rintro e w1 ⟨rfl,hb⟩
  have HB_wa_w1:=Lib.hid (below_then3' (a:=wa) (by have hq:=HB_wa_wa.out;have hsq:=hq.size;(repeat' (first|with_reducible assumption|with_reducible refine Below.drew ?_|with_reducible refine Below.alloc ?_ (by first|omega|exact Nat.le_refl _|(simp;omega)) _|with_reducible exact Below.refl _ _))) hb)
  clear hb
  clear f0 f1 f2 f3 f4 f5 f6 f7 f8 l0
  obtain ⟨f0,f1,f2,f3,f4,f5,f6,f7,f8,l0⟩:=(HBX.out _ HB_wa_w1.out).nine
  go_wp2_with fail
  refine (CS.out _ (HT.out _ HB_wa_w1.out)).mono ?_
  rintro e w2 ⟨rfl,hb⟩
  have HB_wa_w2:=Lib.hid (below_then3' (a:=wa) (by have hq:=HB_wa_w1.out;have hsq:=hq.size;(repeat' (first|with_reducible assumption|with_reducible refine Below.drew ?_|with_reducible refine Below.alloc ?_ (by first|omega|exact Nat.le_refl _|(simp;omega)) _|with_reducible exact Below.refl _ _))) hb)
  clear hb
  clear f0 f1 f2 f3 f4 f5 f6 f7 f8 l0
  obtain ⟨f0,f1,f2,f3,f4,f5,f6,f7,f8,l0⟩:=(HBX.out _ HB_wa_w2.out).nine
  go_wp2_with fail
  go_ret
  exact ⟨rfl,HBA.out.trans (HB_wa_w2.out.mono HBA.out.size)⟩
 | true=>
  have hwt:=wt_smallZ hs
  rw [hs] at CS
  have CE:=Lib.hid (fun W (h:RdT W (.mk k bits hi lo text more sub bs f) (valCells k bits hi lo text more sub ab nb cb ak nk ck))=>renc20_calls (.mk k bits hi lo text more sub bs f) W _ h (by omega))
  by_cases h0:encE (.mk k bits hi lo text more sub bs f)=0
  case neg=>
   have HNE:=Lib.hid h0
   clear hs hwt h0
   go_enter Tryz.func3,Tryz.ntmps3
   go_upto_region 1 with fail
   rw [← hwa]
   clear hwa
   go_wp2_with fail
   refine (awake32 _).mono ?_
   rintro e w1 ⟨rfl,hb⟩
   have HB_wa_w1:=Lib.hid (below_then3' (a:=wa) (by have hq:=HB_wa_wa.out;have hsq:=hq.size;(repeat' (first|with_reducible assumption|with_reducible refine Below.drew ?_|with_reducible refine Below.alloc ?_ (by first|omega|exact Nat.le_refl _|(simp;omega)) _|with_reducible exact Below.refl _ _))) hb)
   clear hb
   clear f0 f1 f2 f3 f4 f5 f6 f7 f8 l0
   obtain ⟨f0,f1,f2,f3,f4,f5,f6,f7,f8,l0⟩:=(HBX.out _ HB_wa_w1.out).nine
   go_wp2_with fail
   refine (CS.out _ (HT.out _ HB_wa_w1.out)).mono ?_
   rintro e w2 ⟨rfl,hb⟩
   have HB_wa_w2:=Lib.hid (below_then3' (a:=wa) (by have hq:=HB_wa_w1.out;have hsq:=hq.size;(repeat' (first|with_reducible assumption|with_reducible refine Below.drew ?_|with_reducible refine Below.alloc ?_ (by first|omega|exact Nat.le_refl _|(simp;omega)) _|with_reducible exact Below.refl _ _))) hb)
   clear hb
   clear f0 f1 f2 f3 f4 f5 f6 f7 f8 l0
   obtain ⟨f0,f1,f2,f3,f4,f5,f6,f7,f8,l0⟩:=(HBX.out _ HB_wa_w2.out).nine
   go_wp2_with fail
   refine (CE.out _ (HT.out _ HB_wa_w2.out)).mono ?_
   rintro e w3 ⟨aE,nE,cE,aP,nP,cP,rfl,hR,hC,hn1,hn2,hn3,hn4,hb⟩
   have HB_wa_w3:=Lib.hid (below_then3' (a:=wa) (by have hq:=HB_wa_w2.out;have hsq:=hq.size;(repeat' (first|with_reducible assumption|with_reducible refine Below.drew ?_|with_reducible refine Below.alloc ?_ (by first|omega|exact Nat.le_refl _|(simp;omega)) _|with_reducible exact Below.refl _ _))) hb)
   clear hR hC hn1 hn2 hn3 hn4
   clear hb
   clear f0 f1 f2 f3 f4 f5 f6 f7 f8 l0
   obtain ⟨f0,f1,f2,f3,f4,f5,f6,f7,f8,l0⟩:=(HBX.out _ HB_wa_w3.out).nine
   obtain ⟨E,hE⟩:∃ E,E=encE (.mk k bits hi lo text more sub bs f):=⟨_,rfl⟩
   rw [← hE]
   have hne:((E:Int) != 0)=true:=by have:=HNE.out;rw [← hE] at this;simpa using this
   clear hE
   go_wp2_with fail
   go_ret
   exact ⟨rfl,HBA.out.trans (Below.mono (show Below wa.heap.size wa _ from (by have hq:=HB_wa_w3.out;have hsq:=hq.size;(repeat' (first|with_reducible assumption|with_reducible refine Below.drew ?_|with_reducible refine Below.alloc ?_ (by first|omega|exact Nat.le_refl _|(simp;omega)) _|with_reducible exact Below.refl _ _)))) HBA.out.size)⟩
  obtain ⟨hc0,hk3⟩:=enc_zeroZ h0
  obtain rfl:k=3:=hk3
  have hwf:f.wt≤1200:=by simp only [T.wt] at hwt;omega
  have hel:encB (.mk 3 bits hi lo text more sub bs f)=docOf (kidsB f):=by unfold encB;rw [if_pos h0];rfl
  have hkl:=kidsB_len f
  have HGE:Hid (guessN (encB (.mk 3 bits hi lo text more sub bs f))=1):=Lib.hid (by rw [hel];exact guess_bson _ (by omega))
  have HNE:Hid ((encB (.mk 3 bits hi lo text more sub bs f)).length≤1000000):=Lib.hid (by rw [hel,docOf_len];omega)
  have CT:=Lib.hid (fun ez W (h:RdT W (.mk 3 bits hi lo text more sub bs f) (valCells 3 bits hi lo text more sub ab nb cb ak nk ck))=>text25_calls ez W bits hi lo text more sub bs f _ h (by omega) hc0)
  have CI:=Lib.hid (fun W (h:RdT W (.mk 3 bits hi lo text more sub bs f) (valCells 3 bits hi lo text more sub ab nb cb ak nk ck))=>item28_calls W bits hi lo text more sub bs f _ h (by omega) hc0)
  have CM:=Lib.hid (fun W (h:RdT W (.mk 3 bits hi lo text more sub bs f) (valCells 3 bits hi lo text more sub ab nb cb ak nk ck))=>item29_calls W bits hi lo text more sub bs f _ h (by omega) hc0)
  have H0:=Lib.hid h0
  have HWF:=Lib.hid hwf
  clear hs hwt h0 hc0 hwf hel hkl
  go_enter Tryz.func3,Tryz.ntmps3
  go_upto_region 1 with fail
  rw [← hwa]
  clear hwa
  go_wp2_with fail
  refine (awake32 _).mono ?_
  rintro e w1 ⟨rfl,hb⟩
  have HB_wa_w1:=Lib.hid (below_then3' (a:=wa) (by have hq:=HB_wa_wa.out;have hsq:=hq.size;(repeat' (first|with_reducible assumption|with_reducible refine Below.drew ?_|with_reducible refine Below.alloc ?_ (by first|omega|exact Nat.le_refl _|(simp;omega)) _|with_reducible exact Below.refl _ _))) hb)
  clear hb
  clear f0 f1 f2 f3 f4 f5 f6 f7 f8 l0
  obtain ⟨f0,f1,f2,f3,f4,f5,f6,f7,f8,l0⟩:=(HBX.out _ HB_wa_w1.out).nine
  go_wp2_with fail
  refine (CS.out _ (HT.out _ HB_wa_w1.out)).mono ?_
  rintro e w2 ⟨rfl,hb⟩
  have HB_wa_w2:=Lib.hid (below_then3' (a:=wa) (by have hq:=HB_wa_w1.out;have hsq:=hq.size;(repeat' (first|with_reducible assumption|with_reducible refine Below.drew ?_|with_reducible refine Below.alloc ?_ (by first|omega|exact Nat.le_refl _|(simp;omega)) _|with_reducible exact Below.refl _ _))) hb)
  clear hb
  clear f0 f1 f2 f3 f4 f5 f6 f7 f8 l0
  obtain ⟨f0,f1,f2,f3,f4,f5,f6,f7,f8,l0⟩:=(HBX.out _ HB_wa_w2.out).nine
  go_wp2_with fail
  refine (CE.out _ (HT.out _ HB_wa_w2.out)).mono ?_
  rintro e w3 ⟨aE,nE,cE,aP,nP,cP,rfl,hR,hC,hn1,hn2,hn3,hn4,hb⟩
  have HB_wa_w3:=Lib.hid (below_then3' (a:=wa) (by have hq:=HB_wa_w2.out;have hsq:=hq.size;(repeat' (first|with_reducible assumption|with_reducible refine Below.drew ?_|with_reducible refine Below.alloc ?_ (by first|omega|exact Nat.le_refl _|(simp;omega)) _|with_reducible exact Below.refl _ _))) hb)
  have HRE:=Lib.hid hR
  have HCE:=Lib.hid hC.2
  have HEN:Hid (nE≤1000000):=Lib.hid (by rw [← hR.1];exact HNE.out)
  rw [H0.out]
  clear hR hC hn1 hn2 hn3 hn4
  clear hb
  clear f0 f1 f2 f3 f4 f5 f6 f7 f8 l0
  obtain ⟨f0,f1,f2,f3,f4,f5,f6,f7,f8,l0⟩:=(HBX.out _ HB_wa_w3.out).nine
  have HB_w3_w3:=Lib.hid (Below.refl w3.heap.size w3)
  go_wp2_with fail
  refine (CT.out false _ (HT.out _ (by have hq:=HB_wa_w3.out;have hsq:=hq.size;(repeat' (first|with_reducible assumption|with_reducible refine Below.drew ?_|with_reducible refine Below.alloc ?_ (by first|omega|exact Nat.le_refl _|(simp;omega)) _|with_reducible exact Below.refl _ _))))).mono ?_
  rintro e w4 ⟨⟨m4,rfl,hm4⟩,hb⟩
  have HB_wa_w4:=Lib.hid (below_then3' (a:=wa) (by have hq:=HB_wa_w3.out;have hsq:=hq.size;(repeat' (first|with_reducible assumption|with_reducible refine Below.drew ?_|with_reducible refine Below.alloc ?_ (by first|omega|exact Nat.le_refl _|(simp;omega)) _|with_reducible exact Below.refl _ _))) hb)
  have HB_w3_w4:=Lib.hid (below_then3' (a:=w3) (by have hq:=HB_w3_w3.out;have hsq:=hq.size;(repeat' (first|with_reducible assumption|with_reducible refine Below.drew ?_|with_reducible refine Below.alloc ?_ (by first|omega|exact Nat.le_refl _|(simp;omega)) _|with_reducible exact Below.refl _ _))) hb)
  have HM4:=Lib.hid hm4
  clear hm4
  obtain ⟨x4,hx4⟩:∃ x,x=txt (123::(m4++[125])):=⟨_,rfl⟩
  rw [← hx4]
  have HGX4:Hid (guessN (sl x4)=2):=Lib.hid (by rw [hx4,sl_txt];exact guess_canon m4)
  have HSX4:Hid (x4.size≤1000000):=Lib.hid (by rw [hx4,txt_size];simp;have:=HM4.out;omega)
  clear hx4
  clear hb
  clear f0 f1 f2 f3 f4 f5 f6 f7 f8 l0
  obtain ⟨f0,f1,f2,f3,f4,f5,f6,f7,f8,l0⟩:=(HBX.out _ HB_wa_w4.out).nine
  go_wp2_with fail
  refine (CT.out true _ (HT.out _ (by have hq:=HB_wa_w4.out;have hsq:=hq.size;(repeat' (first|with_reducible assumption|with_reducible refine Below.drew ?_|with_reducible refine Below.alloc ?_ (by first|omega|exact Nat.le_refl _|(simp;omega)) _|with_reducible exact Below.refl _ _))))).mono ?_
  rintro e w5 ⟨⟨m5,rfl,hm5⟩,hb⟩
  have HB_wa_w5:=Lib.hid (below_then3' (a:=wa) (by have hq:=HB_wa_w4.out;have hsq:=hq.size;(repeat' (first|with_reducible assumption|with_reducible refine Below.drew ?_|with_reducible refine Below.alloc ?_ (by first|omega|exact Nat.le_refl _|(simp;omega)) _|with_reducible exact Below.refl _ _))) hb)
  have HB_w3_w5:=Lib.hid (below_then3' (a:=w3) (by have hq:=HB_w3_w4.out;have hsq:=hq.size;(repeat' (first|with_reducible assumption|with_reducible refine Below.drew ?_|with_reducible refine Below.alloc ?_ (by first|omega|exact Nat.le_refl _|(simp;omega)) _|with_reducible exact Below.refl _ _))) hb)
  have HM5:=Lib.hid hm5
  clear hm5
  obtain ⟨x5,hx5⟩:∃ x,x=txt (123::(m5++[125])):=⟨_,rfl⟩
  rw [← hx5]
  have HGX5:Hid (guessN (sl x5)=2):=Lib.hid (by rw [hx5,sl_txt];exact guess_canon m5)
  have HSX5:Hid (x5.size≤1000000):=Lib.hid (by rw [hx5,txt_size];simp;have:=HM5.out;omega)
  clear hx5
  clear hb
  clear f0 f1 f2 f3 f4 f5 f6 f7 f8 l0
  obtain ⟨f0,f1,f2,f3,f4,f5,f6,f7,f8,l0⟩:=(HBX.out _ HB_wa_w5.out).nine
  go_wp2_with fail
  refine (CI.out _ (HT.out _ (by have hq:=HB_wa_w5.out;have hsq:=hq.size;(repeat' (first|with_reducible assumption|with_reducible refine Below.drew ?_|with_reducible refine Below.alloc ?_ (by first|omega|exact Nat.le_refl _|(simp;omega)) _|with_reducible exact Below.refl _ _))))).mono ?_
  rintro e w6 ⟨a6,n6,c6,g6,rfl,hr6,he6,hd6,hz6,hb⟩
  have HB_wa_w6:=Lib.hid (below_then3' (a:=wa) (by have hq:=HB_wa_w5.out;have hsq:=hq.size;(repeat' (first|with_reducible assumption|with_reducible refine Below.drew ?_|with_reducible refine Below.alloc ?_ (by first|omega|exact Nat.le_refl _|(simp;omega)) _|with_reducible exact Below.refl _ _))) hb)
  have HB_w3_w6:=Lib.hid (below_then3' (a:=w3) (by have hq:=HB_w3_w5.out;have hsq:=hq.size;(repeat' (first|with_reducible assumption|with_reducible refine Below.drew ?_|with_reducible refine Below.alloc ?_ (by first|omega|exact Nat.le_refl _|(simp;omega)) _|with_reducible exact Below.refl _ _))) hb)
  have HR6:=Lib.hid hr6
  have HD6:=Lib.hid (And.intro he6 (And.intro hd6 hz6))
  clear hr6 he6 hd6 hz6
  clear hb
  clear f0 f1 f2 f3 f4 f5 f6 f7 f8 l0
  obtain ⟨f0,f1,f2,f3,f4,f5,f6,f7,f8,l0⟩:=(HBX.out _ HB_wa_w6.out).nine
  obtain ⟨w6b,hw6b⟩:∃ W,W=(w6.alloc (.cells (#[.int .i64 6,.int .u64 0,.slice none 0 0,.string ⟨#[]⟩,.slice a6 n6 c6]) 39)).alloc (.cells #[.int .i64 0,.int .i64 0,.slice none 0 0] 32):=⟨_,rfl⟩
  have HB_wa_w6b:Hid (Below wa.heap.size wa w6b):=Lib.hid (by rw [hw6b];exact (by have hq:=HB_wa_w6.out;have hsq:=hq.size;(repeat' (first|with_reducible assumption|with_reducible refine Below.drew ?_|with_reducible refine Below.alloc ?_ (by first|omega|exact Nat.le_refl _|(simp;omega)) _|with_reducible exact Below.refl _ _))))
  have HB_w3_w6b:Hid (Below w3.heap.size w3 w6b):=Lib.hid (by rw [hw6b];exact (by have hq:=HB_w3_w6.out;have hsq:=hq.size;(repeat' (first|with_reducible assumption|with_reducible refine Below.drew ?_|with_reducible refine Below.alloc ?_ (by first|omega|exact Nat.le_refl _|(simp;omega)) _|with_reducible exact Below.refl _ _))))
  have j0:w6b.cell? ⟨w6.heap.size,0,none⟩=some (.int .i64 6):=by rw [hw6b];simp [go_sem]
  have j1:w6b.cell? ⟨w6.heap.size,1,none⟩=some (.int .u64 0):=by rw [hw6b];simp [go_sem]
  have j2:w6b.cell? ⟨w6.heap.size,2,none⟩=some (.slice none 0 0):=by rw [hw6b];simp [go_sem]
  have j3:w6b.cell? ⟨w6.heap.size,3,none⟩=some (.string ⟨#[]⟩):=by rw [hw6b];simp [go_sem]
  have j4:w6b.cell? ⟨w6.heap.size,4,none⟩=some (.slice a6 n6 c6):=by rw [hw6b];simp [go_sem]
  have j5:w6b.cell? ⟨w6.heap.size+1,0,none⟩=some (.int .i64 0):=by rw [hw6b];simp [go_sem]
  have HJw6b:=Lib.hid j5
  have HBP_w6b:Hid (Below w6.heap.size w6 w6b):=Lib.hid (by rw [hw6b];exact ((Below.refl _ _).alloc (Nat.le_refl _) _).alloc (by simp) _)
  clear f0 f1 f2 f3 f4 f5 f6 f7 f8 l0
  go_upto_region 11 with fail
  rw [← hw6b]
  clear hw6b
  go_wp2_with fail
  refine (renc28_calls (.mk 6 0 [] emB g6) (by have h1:=wts_zt g6;have h2:=HD6.out.2.2;have h3:=HWF.out;simp only [I.wt,List.length_nil];have h4:emB.size=0:=rfl;omega) _ _ (HR6.out.below HBP_w6b.out)).mono ?_
  rintro e w7 ⟨a7,n7,c7,rfl,hR,hA,hC1,hC2,hb⟩
  have HB_wa_w7:=Lib.hid (below_then3' (a:=wa) (by have hq:=HB_wa_w6b.out;have hsq:=hq.size;(repeat' (first|with_reducible assumption|with_reducible refine Below.drew ?_|with_reducible refine Below.alloc ?_ (by first|omega|exact Nat.le_refl _|(simp;omega)) _|with_reducible exact Below.refl _ _))) hb)
  have HB_w3_w7:=Lib.hid (below_then3' (a:=w3) (by have hq:=HB_w3_w6b.out;have hsq:=hq.size;(repeat' (first|with_reducible assumption|with_reducible refine Below.drew ?_|with_reducible refine Below.alloc ?_ (by first|omega|exact Nat.le_refl _|(simp;omega)) _|with_reducible exact Below.refl _ _))) hb)
  rw [HD6.out.1,if_pos rfl] at hR
  rw [HD6.out.1]
  have HRX:=Lib.hid hR
  have HCX:=Lib.hid (And.intro hC1 hC2)
  have HZ6:Hid (g6.zt≤21600):=Lib.hid (by have h2:=HD6.out.2.2;have h3:=HWF.out;omega)
  have HGX:Hid (guessN (layI (.mk 6 0 [] emB g6))=4):=Lib.hid (guess_cbor g6 HD6.out.2.1 HZ6.out)
  have HNX:Hid (n7≤1000000):=Lib.hid (by have h1:=zt_len (.mk 6 0 [] emB g6) (by rw [zt_map];have:=HZ6.out;omega);rw [zt_map] at h1;have h2:=hR.1;have:=HZ6.out;omega)
  clear hR hA hC1 hC2 j0 j1 j2 j3 j4 j5
  clear hb
  obtain ⟨f0,f1,f2,f3,f4,f5,f6,f7,f8,l0⟩:=(HBX.out _ HB_wa_w7.out).nine
  have HB_w7_w7:=Lib.hid (Below.refl w7.heap.size w7)
  go_wp2_with fail
  refine (CM.out _ (HT.out _ (by have hq:=HB_wa_w7.out;have hsq:=hq.size;(repeat' (first|with_reducible assumption|with_reducible refine Below.drew ?_|with_reducible refine Below.alloc ?_ (by first|omega|exact Nat.le_refl _|(simp;omega)) _|with_reducible exact Below.refl _ _))))).mono ?_
  rintro e w8 (⟨rfl,hb⟩ | ⟨a8,n8,c8,g8,rfl,hr8,hok8,hd8,hz8,hb⟩)
  ·have HB_wa_w8:=Lib.hid (below_then3' (a:=wa) (by have hq:=HB_wa_w7.out;have hsq:=hq.size;(repeat' (first|with_reducible assumption|with_reducible refine Below.drew ?_|with_reducible refine Below.alloc ?_ (by first|omega|exact Nat.le_refl _|(simp;omega)) _|with_reducible exact Below.refl _ _))) hb)
   have HB_w3_w8:=Lib.hid (below_then3' (a:=w3) (by have hq:=HB_w3_w7.out;have hsq:=hq.size;(repeat' (first|with_reducible assumption|with_reducible refine Below.drew ?_|with_reducible refine Below.alloc ?_ (by first|omega|exact Nat.le_refl _|(simp;omega)) _|with_reducible exact Below.refl _ _))) hb)
   have HB_w7_w8:=Lib.hid (below_then3' (a:=w7) (by have hq:=HB_w7_w7.out;have hsq:=hq.size;(repeat' (first|with_reducible assumption|with_reducible refine Below.drew ?_|with_reducible refine Below.alloc ?_ (by first|omega|exact Nat.le_refl _|(simp;omega)) _|with_reducible exact Below.refl _ _))) hb)
   clear hb
   obtain ⟨w8b,hw8b⟩:∃ W,W=(w8.alloc (.cells (#[.int .i64 0,.int .u64 0,.slice none 0 0,.string ⟨#[]⟩,.slice none 0 0]) 39)).alloc (.cells #[.int .i64 8,.int .i64 0,.slice none 0 0] 32):=⟨_,rfl⟩
   have HB_wa_w8b:Hid (Below wa.heap.size wa w8b):=Lib.hid (by rw [hw8b];exact (by have hq:=HB_wa_w8.out;have hsq:=hq.size;(repeat' (first|with_reducible assumption|with_reducible refine Below.drew ?_|with_reducible refine Below.alloc ?_ (by first|omega|exact Nat.le_refl _|(simp;omega)) _|with_reducible exact Below.refl _ _))))
   have HB_w3_w8b:Hid (Below w3.heap.size w3 w8b):=Lib.hid (by rw [hw8b];exact (by have hq:=HB_w3_w8.out;have hsq:=hq.size;(repeat' (first|with_reducible assumption|with_reducible refine Below.drew ?_|with_reducible refine Below.alloc ?_ (by first|omega|exact Nat.le_refl _|(simp;omega)) _|with_reducible exact Below.refl _ _))))
   have HB_w7_w8b:Hid (Below w7.heap.size w7 w8b):=Lib.hid (by rw [hw8b];exact (by have hq:=HB_w7_w8.out;have hsq:=hq.size;(repeat' (first|with_reducible assumption|with_reducible refine Below.drew ?_|with_reducible refine Below.alloc ?_ (by first|omega|exact Nat.le_refl _|(simp;omega)) _|with_reducible exact Below.refl _ _))))
   have j0:w8b.cell? ⟨w8.heap.size,0,none⟩=some (.int .i64 0):=by rw [hw8b];simp [go_sem]
   have j1:w8b.cell? ⟨w8.heap.size,1,none⟩=some (.int .u64 0):=by rw [hw8b];simp [go_sem]
   have j2:w8b.cell? ⟨w8.heap.size,2,none⟩=some (.slice none 0 0):=by rw [hw8b];simp [go_sem]
   have j3:w8b.cell? ⟨w8.heap.size,3,none⟩=some (.string ⟨#[]⟩):=by rw [hw8b];simp [go_sem]
   have j4:w8b.cell? ⟨w8.heap.size,4,none⟩=some (.slice none 0 0):=by rw [hw8b];simp [go_sem]
   have j5:w8b.cell? ⟨w8.heap.size+1,0,none⟩=some (.int .i64 8):=by rw [hw8b];simp [go_sem]
   have HJw8b:=Lib.hid j5
   have HBP_w8b:Hid (Below w8.heap.size w8 w8b):=Lib.hid (by rw [hw8b];exact ((Below.refl _ _).alloc (Nat.le_refl _) _).alloc (by simp) _)
   clear f0 f1 f2 f3 f4 f5 f6 f7 f8 l0
   go_upto_region 13 with fail
   rw [← hw8b]
   clear hw8b
   have HB_w8b_w8b:=Lib.hid (Below.refl w8b.heap.size w8b)
   go_wp2_with fail
   refine (enc29_zero _).mono ?_
   rintro e w9 ⟨rfl,hb⟩
   have HB_wa_w9:=Lib.hid (below_then3' (a:=wa) (by have hq:=HB_wa_w8b.out;have hsq:=hq.size;(repeat' (first|with_reducible assumption|with_reducible refine Below.drew ?_|with_reducible refine Below.alloc ?_ (by first|omega|exact Nat.le_refl _|(simp;omega)) _|with_reducible exact Below.refl _ _))) hb)
   have HB_w3_w9:=Lib.hid (below_then3' (a:=w3) (by have hq:=HB_w3_w8b.out;have hsq:=hq.size;(repeat' (first|with_reducible assumption|with_reducible refine Below.drew ?_|with_reducible refine Below.alloc ?_ (by first|omega|exact Nat.le_refl _|(simp;omega)) _|with_reducible exact Below.refl _ _))) hb)
   have HB_w7_w9:=Lib.hid (below_then3' (a:=w7) (by have hq:=HB_w7_w8b.out;have hsq:=hq.size;(repeat' (first|with_reducible assumption|with_reducible refine Below.drew ?_|with_reducible refine Below.alloc ?_ (by first|omega|exact Nat.le_refl _|(simp;omega)) _|with_reducible exact Below.refl _ _))) hb)
   have HB_w8b_w9:=Lib.hid (below_then3' (a:=w8b) (by have hq:=HB_w8b_w8b.out;have hsq:=hq.size;(repeat' (first|with_reducible assumption|with_reducible refine Below.drew ?_|with_reducible refine Below.alloc ?_ (by first|omega|exact Nat.le_refl _|(simp;omega)) _|with_reducible exact Below.refl _ _))) hb)
   clear j0 j1 j2 j3 j4 j5
   clear hb
   go_wp2_with fail
   refine (guess_is 1 (HRE.out.keep HB_w3_w9.out) HCE.out HEN.out HGE.out).mono ?_
   rintro e w10 ⟨rfl,hb⟩
   have HB_wa_w10:=Lib.hid (below_then3' (a:=wa) (by have hq:=HB_wa_w9.out;have hsq:=hq.size;(repeat' (first|with_reducible assumption|with_reducible refine Below.drew ?_|with_reducible refine Below.alloc ?_ (by first|omega|exact Nat.le_refl _|(simp;omega)) _|with_reducible exact Below.refl _ _))) hb)
   have HB_w3_w10:=Lib.hid (below_then3' (a:=w3) (by have hq:=HB_w3_w9.out;have hsq:=hq.size;(repeat' (first|with_reducible assumption|with_reducible refine Below.drew ?_|with_reducible refine Below.alloc ?_ (by first|omega|exact Nat.le_refl _|(simp;omega)) _|with_reducible exact Below.refl _ _))) hb)
   have HB_w7_w10:=Lib.hid (below_then3' (a:=w7) (by have hq:=HB_w7_w9.out;have hsq:=hq.size;(repeat' (first|with_reducible assumption|with_reducible refine Below.drew ?_|with_reducible refine Below.alloc ?_ (by first|omega|exact Nat.le_refl _|(simp;omega)) _|with_reducible exact Below.refl _ _))) hb)
   have HB_w8b_w10:=Lib.hid (below_then3' (a:=w8b) (by have hq:=HB_w8b_w9.out;have hsq:=hq.size;(repeat' (first|with_reducible assumption|with_reducible refine Below.drew ?_|with_reducible refine Below.alloc ?_ (by first|omega|exact Nat.le_refl _|(simp;omega)) _|with_reducible exact Below.refl _ _))) hb)
   clear hb
   obtain ⟨cp11,w11c,hrun11,hcb,hrb,hc1,hc2⟩:=conv_max w10 x4 HSX4.out
   obtain ⟨q11,hq11⟩:∃ q,q=w10.heap.size:=⟨_,rfl⟩
   rw [← hq11] at hrun11 hrb
   have HB_wa_w11c:=Lib.hid (HB_wa_w10.out.trans (hcb.mono HB_wa_w10.out.size))
   have HB_w3_w11c:=Lib.hid (HB_w3_w10.out.trans (hcb.mono HB_w3_w10.out.size))
   have HB_w7_w11c:=Lib.hid (HB_w7_w10.out.trans (hcb.mono HB_w7_w10.out.size))
   have HB_w8b_w11c:=Lib.hid (HB_w8b_w10.out.trans (hcb.mono HB_w8b_w10.out.size))
   have HRB11:=Lib.hid hrb
   have HCB11:=Lib.hid (And.intro hc1 hc2)
   clear hcb hrb hc1 hc2 hq11
   go_wp2_with fail
   refine (guess_is 2 HRB11.out HCB11.out HSX4.out HGX4.out).mono ?_
   rintro e w11 ⟨rfl,hb⟩
   have HB_wa_w11:=Lib.hid (below_then3' (a:=wa) (by have hq:=HB_wa_w11c.out;have hsq:=hq.size;(repeat' (first|with_reducible assumption|with_reducible refine Below.drew ?_|with_reducible refine Below.alloc ?_ (by first|omega|exact Nat.le_refl _|(simp;omega)) _|with_reducible exact Below.refl _ _))) hb)
   have HB_w3_w11:=Lib.hid (below_then3' (a:=w3) (by have hq:=HB_w3_w11c.out;have hsq:=hq.size;(repeat' (first|with_reducible assumption|with_reducible refine Below.drew ?_|with_reducible refine Below.alloc ?_ (by first|omega|exact Nat.le_refl _|(simp;omega)) _|with_reducible exact Below.refl _ _))) hb)
   have HB_w7_w11:=Lib.hid (below_then3' (a:=w7) (by have hq:=HB_w7_w11c.out;have hsq:=hq.size;(repeat' (first|with_reducible assumption|with_reducible refine Below.drew ?_|with_reducible refine Below.alloc ?_ (by first|omega|exact Nat.le_refl _|(simp;omega)) _|with_reducible exact Below.refl _ _))) hb)
   have HB_w8b_w11:=Lib.hid (below_then3' (a:=w8b) (by have hq:=HB_w8b_w11c.out;have hsq:=hq.size;(repeat' (first|with_reducible assumption|with_reducible refine Below.drew ?_|with_reducible refine Below.alloc ?_ (by first|omega|exact Nat.le_refl _|(simp;omega)) _|with_reducible exact Below.refl _ _))) hb)
   clear hrun11
   clear hb
   obtain ⟨cp12,w12c,hrun12,hcb,hrb,hc1,hc2⟩:=conv_max w11 x5 HSX5.out
   obtain ⟨q12,hq12⟩:∃ q,q=w11.heap.size:=⟨_,rfl⟩
   rw [← hq12] at hrun12 hrb
   have HB_wa_w12c:=Lib.hid (HB_wa_w11.out.trans (hcb.mono HB_wa_w11.out.size))
   have HB_w3_w12c:=Lib.hid (HB_w3_w11.out.trans (hcb.mono HB_w3_w11.out.size))
   have HB_w7_w12c:=Lib.hid (HB_w7_w11.out.trans (hcb.mono HB_w7_w11.out.size))
   have HB_w8b_w12c:=Lib.hid (HB_w8b_w11.out.trans (hcb.mono HB_w8b_w11.out.size))
   have HRB12:=Lib.hid hrb
   have HCB12:=Lib.hid (And.intro hc1 hc2)
   clear hcb hrb hc1 hc2 hq12
   go_wp2_with fail
   refine (guess_is 2 HRB12.out HCB12.out HSX5.out HGX5.out).mono ?_
   rintro e w12 ⟨rfl,hb⟩
   have HB_wa_w12:=Lib.hid (below_then3' (a:=wa) (by have hq:=HB_wa_w12c.out;have hsq:=hq.size;(repeat' (first|with_reducible assumption|with_reducible refine Below.drew ?_|with_reducible refine Below.alloc ?_ (by first|omega|exact Nat.le_refl _|(simp;omega)) _|with_reducible exact Below.refl _ _))) hb)
   have HB_w3_w12:=Lib.hid (below_then3' (a:=w3) (by have hq:=HB_w3_w12c.out;have hsq:=hq.size;(repeat' (first|with_reducible assumption|with_reducible refine Below.drew ?_|with_reducible refine Below.alloc ?_ (by first|omega|exact Nat.le_refl _|(simp;omega)) _|with_reducible exact Below.refl _ _))) hb)
   have HB_w7_w12:=Lib.hid (below_then3' (a:=w7) (by have hq:=HB_w7_w12c.out;have hsq:=hq.size;(repeat' (first|with_reducible assumption|with_reducible refine Below.drew ?_|with_reducible refine Below.alloc ?_ (by first|omega|exact Nat.le_refl _|(simp;omega)) _|with_reducible exact Below.refl _ _))) hb)
   have HB_w8b_w12:=Lib.hid (below_then3' (a:=w8b) (by have hq:=HB_w8b_w12c.out;have hsq:=hq.size;(repeat' (first|with_reducible assumption|with_reducible refine Below.drew ?_|with_reducible refine Below.alloc ?_ (by first|omega|exact Nat.le_refl _|(simp;omega)) _|with_reducible exact Below.refl _ _))) hb)
   clear hrun12
   clear hb
   go_wp2_with fail
   refine (guess_is 4 (HRX.out.keep HB_w7_w12.out) HCX.out HNX.out HGX.out).mono ?_
   rintro e w13 ⟨rfl,hb⟩
   have HB_wa_w13:=Lib.hid (below_then3' (a:=wa) (by have hq:=HB_wa_w12.out;have hsq:=hq.size;(repeat' (first|with_reducible assumption|with_reducible refine Below.drew ?_|with_reducible refine Below.alloc ?_ (by first|omega|exact Nat.le_refl _|(simp;omega)) _|with_reducible exact Below.refl _ _))) hb)
   have HB_w3_w13:=Lib.hid (below_then3' (a:=w3) (by have hq:=HB_w3_w12.out;have hsq:=hq.size;(repeat' (first|with_reducible assumption|with_reducible refine Below.drew ?_|with_reducible refine Below.alloc ?_ (by first|omega|exact Nat.le_refl _|(simp;omega)) _|with_reducible exact Below.refl _ _))) hb)
   have HB_w7_w13:=Lib.hid (below_then3' (a:=w7) (by have hq:=HB_w7_w12.out;have hsq:=hq.size;(repeat' (first|with_reducible assumption|with_reducible refine Below.drew ?_|with_reducible refine Below.alloc ?_ (by first|omega|exact Nat.le_refl _|(simp;omega)) _|with_reducible exact Below.refl _ _))) hb)
   have HB_w8b_w13:=Lib.hid (below_then3' (a:=w8b) (by have hq:=HB_w8b_w12.out;have hsq:=hq.size;(repeat' (first|with_reducible assumption|with_reducible refine Below.drew ?_|with_reducible refine Below.alloc ?_ (by first|omega|exact Nat.le_refl _|(simp;omega)) _|with_reducible exact Below.refl _ _))) hb)
   clear hb
   have j6:w13.cell? ⟨w8.heap.size+1,0,none⟩=some (.int .i64 8):=cell_below HB_w8b_w13.out HJw8b.out
   go_wp2_with fail
   go_ret
   exact ⟨rfl,HBA.out.trans (HB_wa_w13.out.mono HBA.out.size)⟩
  ·have HB_wa_w8:=Lib.hid (below_then3' (a:=wa) (by have hq:=HB_wa_w7.out;have hsq:=hq.size;(repeat' (first|with_reducible assumption|with_reducible refine Below.drew ?_|with_reducible refine Below.alloc ?_ (by first|omega|exact Nat.le_refl _|(simp;omega)) _|with_reducible exact Below.refl _ _))) hb)
   have HB_w3_w8:=Lib.hid (below_then3' (a:=w3) (by have hq:=HB_w3_w7.out;have hsq:=hq.size;(repeat' (first|with_reducible assumption|with_reducible refine Below.drew ?_|with_reducible refine Below.alloc ?_ (by first|omega|exact Nat.le_refl _|(simp;omega)) _|with_reducible exact Below.refl _ _))) hb)
   have HB_w7_w8:=Lib.hid (below_then3' (a:=w7) (by have hq:=HB_w7_w7.out;have hsq:=hq.size;(repeat' (first|with_reducible assumption|with_reducible refine Below.drew ?_|with_reducible refine Below.alloc ?_ (by first|omega|exact Nat.le_refl _|(simp;omega)) _|with_reducible exact Below.refl _ _))) hb)
   have HR8:=Lib.hid hr8
   have HK8:=Lib.hid (And.intro hok8 (And.intro hd8 hz8))
   clear hr8 hok8 hd8 hz8
   clear hb
   obtain ⟨w8b,hw8b⟩:∃ W,W=(w8.alloc (.cells (#[.int .i64 6,.int .u64 0,.slice none 0 0,.string ⟨#[]⟩,.slice a8 n8 c8]) 39)).alloc (.cells #[.int .i64 0,.int .i64 0,.slice none 0 0] 32):=⟨_,rfl⟩
   have HB_wa_w8b:Hid (Below wa.heap.size wa w8b):=Lib.hid (by rw [hw8b];exact (by have hq:=HB_wa_w8.out;have hsq:=hq.size;(repeat' (first|with_reducible assumption|with_reducible refine Below.drew ?_|with_reducible refine Below.alloc ?_ (by first|omega|exact Nat.le_refl _|(simp;omega)) _|with_reducible exact Below.refl _ _))))
   have HB_w3_w8b:Hid (Below w3.heap.size w3 w8b):=Lib.hid (by rw [hw8b];exact (by have hq:=HB_w3_w8.out;have hsq:=hq.size;(repeat' (first|with_reducible assumption|with_reducible refine Below.drew ?_|with_reducible refine Below.alloc ?_ (by first|omega|exact Nat.le_refl _|(simp;omega)) _|with_reducible exact Below.refl _ _))))
   have HB_w7_w8b:Hid (Below w7.heap.size w7 w8b):=Lib.hid (by rw [hw8b];exact (by have hq:=HB_w7_w8.out;have hsq:=hq.size;(repeat' (first|with_reducible assumption|with_reducible refine Below.drew ?_|with_reducible refine Below.alloc ?_ (by first|omega|exact Nat.le_refl _|(simp;omega)) _|with_reducible exact Below.refl _ _))))
   have j0:w8b.cell? ⟨w8.heap.size,0,none⟩=some (.int .i64 6):=by rw [hw8b];simp [go_sem]
   have j1:w8b.cell? ⟨w8.heap.size,1,none⟩=some (.int .u64 0):=by rw [hw8b];simp [go_sem]
   have j2:w8b.cell? ⟨w8.heap.size,2,none⟩=some (.slice none 0 0):=by rw [hw8b];simp [go_sem]
   have j3:w8b.cell? ⟨w8.heap.size,3,none⟩=some (.string ⟨#[]⟩):=by rw [hw8b];simp [go_sem]
   have j4:w8b.cell? ⟨w8.heap.size,4,none⟩=some (.slice a8 n8 c8):=by rw [hw8b];simp [go_sem]
   have j5:w8b.cell? ⟨w8.heap.size+1,0,none⟩=some (.int .i64 0):=by rw [hw8b];simp [go_sem]
   have HJw8b:=Lib.hid j5
   have HBP_w8b:Hid (Below w8.heap.size w8 w8b):=Lib.hid (by rw [hw8b];exact ((Below.refl _ _).alloc (Nat.le_refl _) _).alloc (by simp) _)
   clear f0 f1 f2 f3 f4 f5 f6 f7 f8 l0
   go_upto_region 13 with fail
   rw [← hw8b]
   clear hw8b
   have HB_w8b_w8b:=Lib.hid (Below.refl w8b.heap.size w8b)
   have HS8:Hid (szMs g8≤24000):=Lib.hid (by have h2:=HK8.out.2.2;have h3:=HWF.out;omega)
   go_wp2_with fail
   refine (renc29_calls (.mk 6 0 [] emB g8) (by rw [sz_map];have:=HS8.out;omega) HK8.out.1 _ _ (HR8.out.below HBP_w8b.out)).mono ?_
   rintro e w9 ⟨a9,n9,c9,l9,rfl,hR,hL,hA,hC1,hC2,hb⟩
   have HB_wa_w9:=Lib.hid (below_then3' (a:=wa) (by have hq:=HB_wa_w8b.out;have hsq:=hq.size;(repeat' (first|with_reducible assumption|with_reducible refine Below.drew ?_|with_reducible refine Below.alloc ?_ (by first|omega|exact Nat.le_refl _|(simp;omega)) _|with_reducible exact Below.refl _ _))) hb)
   have HB_w3_w9:=Lib.hid (below_then3' (a:=w3) (by have hq:=HB_w3_w8b.out;have hsq:=hq.size;(repeat' (first|with_reducible assumption|with_reducible refine Below.drew ?_|with_reducible refine Below.alloc ?_ (by first|omega|exact Nat.le_refl _|(simp;omega)) _|with_reducible exact Below.refl _ _))) hb)
   have HB_w7_w9:=Lib.hid (below_then3' (a:=w7) (by have hq:=HB_w7_w8b.out;have hsq:=hq.size;(repeat' (first|with_reducible assumption|with_reducible refine Below.drew ?_|with_reducible refine Below.alloc ?_ (by first|omega|exact Nat.le_refl _|(simp;omega)) _|with_reducible exact Below.refl _ _))) hb)
   have HB_w8b_w9:=Lib.hid (below_then3' (a:=w8b) (by have hq:=HB_w8b_w8b.out;have hsq:=hq.size;(repeat' (first|with_reducible assumption|with_reducible refine Below.drew ?_|with_reducible refine Below.alloc ?_ (by first|omega|exact Nat.le_refl _|(simp;omega)) _|with_reducible exact Below.refl _ _))) hb)
   have HRY:=Lib.hid hR
   have HCY:=Lib.hid (And.intro hC1 hC2)
   have HGY:Hid (guessN l9=5):=Lib.hid (guess_mpack g8 l9 hL HK8.out.2.1 HS8.out)
   have HNY:Hid (n9≤1000000):=Lib.hid (by have h1:=hL.len;rw [sz_map] at h1;have h2:=hR.1;have:=HS8.out;omega)
   clear hR hL hA hC1 hC2 j0 j1 j2 j3 j4 j5
   clear hb
   have HB_w9_w9:=Lib.hid (Below.refl w9.heap.size w9)
   go_wp2_with fail
   refine (guess_is 1 (HRE.out.keep HB_w3_w9.out) HCE.out HEN.out HGE.out).mono ?_
   rintro e w10 ⟨rfl,hb⟩
   have HB_wa_w10:=Lib.hid (below_then3' (a:=wa) (by have hq:=HB_wa_w9.out;have hsq:=hq.size;(repeat' (first|with_reducible assumption|with_reducible refine Below.drew ?_|with_reducible refine Below.alloc ?_ (by first|omega|exact Nat.le_refl _|(simp;omega)) _|with_reducible exact Below.refl _ _))) hb)
   have HB_w3_w10:=Lib.hid (below_then3' (a:=w3) (by have hq:=HB_w3_w9.out;have hsq:=hq.size;(repeat' (first|with_reducible assumption|with_reducible refine Below.drew ?_|with_reducible refine Below.alloc ?_ (by first|omega|exact Nat.le_refl _|(simp;omega)) _|with_reducible exact Below.refl _ _))) hb)
   have HB_w7_w10:=Lib.hid (below_then3' (a:=w7) (by have hq:=HB_w7_w9.out;have hsq:=hq.size;(repeat' (first|with_reducible assumption|with_reducible refine Below.drew ?_|with_reducible refine Below.alloc ?_ (by first|omega|exact Nat.le_refl _|(simp;omega)) _|with_reducible exact Below.refl _ _))) hb)
   have HB_w8b_w10:=Lib.hid (below_then3' (a:=w8b) (by have hq:=HB_w8b_w9.out;have hsq:=hq.size;(repeat' (first|with_reducible assumption|with_reducible refine Below.drew ?_|with_reducible refine Below.alloc ?_ (by first|omega|exact Nat.le_refl _|(simp;omega)) _|with_reducible exact Below.refl _ _))) hb)
   have HB_w9_w10:=Lib.hid (below_then3' (a:=w9) (by have hq:=HB_w9_w9.out;have hsq:=hq.size;(repeat' (first|with_reducible assumption|with_reducible refine Below.drew ?_|with_reducible refine Below.alloc ?_ (by first|omega|exact Nat.le_refl _|(simp;omega)) _|with_reducible exact Below.refl _ _))) hb)
   clear hb
   obtain ⟨cp11,w11c,hrun11,hcb,hrb,hc1,hc2⟩:=conv_max w10 x4 HSX4.out
   obtain ⟨q11,hq11⟩:∃ q,q=w10.heap.size:=⟨_,rfl⟩
   rw [← hq11] at hrun11 hrb
   have HB_wa_w11c:=Lib.hid (HB_wa_w10.out.trans (hcb.mono HB_wa_w10.out.size))
   have HB_w3_w11c:=Lib.hid (HB_w3_w10.out.trans (hcb.mono HB_w3_w10.out.size))
   have HB_w7_w11c:=Lib.hid (HB_w7_w10.out.trans (hcb.mono HB_w7_w10.out.size))
   have HB_w8b_w11c:=Lib.hid (HB_w8b_w10.out.trans (hcb.mono HB_w8b_w10.out.size))
   have HB_w9_w11c:=Lib.hid (HB_w9_w10.out.trans (hcb.mono HB_w9_w10.out.size))
   have HRB11:=Lib.hid hrb
   have HCB11:=Lib.hid (And.intro hc1 hc2)
   clear hcb hrb hc1 hc2 hq11
   go_wp2_with fail
   refine (guess_is 2 HRB11.out HCB11.out HSX4.out HGX4.out).mono ?_
   rintro e w11 ⟨rfl,hb⟩
   have HB_wa_w11:=Lib.hid (below_then3' (a:=wa) (by have hq:=HB_wa_w11c.out;have hsq:=hq.size;(repeat' (first|with_reducible assumption|with_reducible refine Below.drew ?_|with_reducible refine Below.alloc ?_ (by first|omega|exact Nat.le_refl _|(simp;omega)) _|with_reducible exact Below.refl _ _))) hb)
   have HB_w3_w11:=Lib.hid (below_then3' (a:=w3) (by have hq:=HB_w3_w11c.out;have hsq:=hq.size;(repeat' (first|with_reducible assumption|with_reducible refine Below.drew ?_|with_reducible refine Below.alloc ?_ (by first|omega|exact Nat.le_refl _|(simp;omega)) _|with_reducible exact Below.refl _ _))) hb)
   have HB_w7_w11:=Lib.hid (below_then3' (a:=w7) (by have hq:=HB_w7_w11c.out;have hsq:=hq.size;(repeat' (first|with_reducible assumption|with_reducible refine Below.drew ?_|with_reducible refine Below.alloc ?_ (by first|omega|exact Nat.le_refl _|(simp;omega)) _|with_reducible exact Below.refl _ _))) hb)
   have HB_w8b_w11:=Lib.hid (below_then3' (a:=w8b) (by have hq:=HB_w8b_w11c.out;have hsq:=hq.size;(repeat' (first|with_reducible assumption|with_reducible refine Below.drew ?_|with_reducible refine Below.alloc ?_ (by first|omega|exact Nat.le_refl _|(simp;omega)) _|with_reducible exact Below.refl _ _))) hb)
   have HB_w9_w11:=Lib.hid (below_then3' (a:=w9) (by have hq:=HB_w9_w11c.out;have hsq:=hq.size;(repeat' (first|with_reducible assumption|with_reducible refine Below.drew ?_|with_reducible refine Below.alloc ?_ (by first|omega|exact Nat.le_refl _|(simp;omega)) _|with_reducible exact Below.refl _ _))) hb)
   clear hrun11
   clear hb
   obtain ⟨cp12,w12c,hrun12,hcb,hrb,hc1,hc2⟩:=conv_max w11 x5 HSX5.out
   obtain ⟨q12,hq12⟩:∃ q,q=w11.heap.size:=⟨_,rfl⟩
   rw [← hq12] at hrun12 hrb
   have HB_wa_w12c:=Lib.hid (HB_wa_w11.out.trans (hcb.mono HB_wa_w11.out.size))
   have HB_w3_w12c:=Lib.hid (HB_w3_w11.out.trans (hcb.mono HB_w3_w11.out.size))
   have HB_w7_w12c:=Lib.hid (HB_w7_w11.out.trans (hcb.mono HB_w7_w11.out.size))
   have HB_w8b_w12c:=Lib.hid (HB_w8b_w11.out.trans (hcb.mono HB_w8b_w11.out.size))
   have HB_w9_w12c:=Lib.hid (HB_w9_w11.out.trans (hcb.mono HB_w9_w11.out.size))
   have HRB12:=Lib.hid hrb
   have HCB12:=Lib.hid (And.intro hc1 hc2)
   clear hcb hrb hc1 hc2 hq12
   go_wp2_with fail
   refine (guess_is 2 HRB12.out HCB12.out HSX5.out HGX5.out).mono ?_
   rintro e w12 ⟨rfl,hb⟩
   have HB_wa_w12:=Lib.hid (below_then3' (a:=wa) (by have hq:=HB_wa_w12c.out;have hsq:=hq.size;(repeat' (first|with_reducible assumption|with_reducible refine Below.drew ?_|with_reducible refine Below.alloc ?_ (by first|omega|exact Nat.le_refl _|(simp;omega)) _|with_reducible exact Below.refl _ _))) hb)
   have HB_w3_w12:=Lib.hid (below_then3' (a:=w3) (by have hq:=HB_w3_w12c.out;have hsq:=hq.size;(repeat' (first|with_reducible assumption|with_reducible refine Below.drew ?_|with_reducible refine Below.alloc ?_ (by first|omega|exact Nat.le_refl _|(simp;omega)) _|with_reducible exact Below.refl _ _))) hb)
   have HB_w7_w12:=Lib.hid (below_then3' (a:=w7) (by have hq:=HB_w7_w12c.out;have hsq:=hq.size;(repeat' (first|with_reducible assumption|with_reducible refine Below.drew ?_|with_reducible refine Below.alloc ?_ (by first|omega|exact Nat.le_refl _|(simp;omega)) _|with_reducible exact Below.refl _ _))) hb)
   have HB_w8b_w12:=Lib.hid (below_then3' (a:=w8b) (by have hq:=HB_w8b_w12c.out;have hsq:=hq.size;(repeat' (first|with_reducible assumption|with_reducible refine Below.drew ?_|with_reducible refine Below.alloc ?_ (by first|omega|exact Nat.le_refl _|(simp;omega)) _|with_reducible exact Below.refl _ _))) hb)
   have HB_w9_w12:=Lib.hid (below_then3' (a:=w9) (by have hq:=HB_w9_w12c.out;have hsq:=hq.size;(repeat' (first|with_reducible assumption|with_reducible refine Below.drew ?_|with_reducible refine Below.alloc ?_ (by first|omega|exact Nat.le_refl _|(simp;omega)) _|with_reducible exact Below.refl _ _))) hb)
   clear hrun12
   clear hb
   go_wp2_with fail
   refine (guess_is 4 (HRX.out.keep HB_w7_w12.out) HCX.out HNX.out HGX.out).mono ?_
   rintro e w13 ⟨rfl,hb⟩
   have HB_wa_w13:=Lib.hid (below_then3' (a:=wa) (by have hq:=HB_wa_w12.out;have hsq:=hq.size;(repeat' (first|with_reducible assumption|with_reducible refine Below.drew ?_|with_reducible refine Below.alloc ?_ (by first|omega|exact Nat.le_refl _|(simp;omega)) _|with_reducible exact Below.refl _ _))) hb)
   have HB_w3_w13:=Lib.hid (below_then3' (a:=w3) (by have hq:=HB_w3_w12.out;have hsq:=hq.size;(repeat' (first|with_reducible assumption|with_reducible refine Below.drew ?_|with_reducible refine Below.alloc ?_ (by first|omega|exact Nat.le_refl _|(simp;omega)) _|with_reducible exact Below.refl _ _))) hb)
   have HB_w7_w13:=Lib.hid (below_then3' (a:=w7) (by have hq:=HB_w7_w12.out;have hsq:=hq.size;(repeat' (first|with_reducible assumption|with_reducible refine Below.drew ?_|with_reducible refine Below.alloc ?_ (by first|omega|exact Nat.le_refl _|(simp;omega)) _|with_reducible exact Below.refl _ _))) hb)
   have HB_w8b_w13:=Lib.hid (below_then3' (a:=w8b) (by have hq:=HB_w8b_w12.out;have hsq:=hq.size;(repeat' (first|with_reducible assumption|with_reducible refine Below.drew ?_|with_reducible refine Below.alloc ?_ (by first|omega|exact Nat.le_refl _|(simp;omega)) _|with_reducible exact Below.refl _ _))) hb)
   have HB_w9_w13:=Lib.hid (below_then3' (a:=w9) (by have hq:=HB_w9_w12.out;have hsq:=hq.size;(repeat' (first|with_reducible assumption|with_reducible refine Below.drew ?_|with_reducible refine Below.alloc ?_ (by first|omega|exact Nat.le_refl _|(simp;omega)) _|with_reducible exact Below.refl _ _))) hb)
   clear hb
   have j6:w13.cell? ⟨w8.heap.size+1,0,none⟩=some (.int .i64 0):=cell_below HB_w8b_w13.out HJw8b.out
   go_wp2_with fail
   refine (guess_is 5 (HRY.out.keep HB_w9_w13.out) HCY.out HNY.out HGY.out).mono ?_
   rintro e w14 ⟨rfl,hb⟩
   have HB_wa_w14:=Lib.hid (below_then3' (a:=wa) (by have hq:=HB_wa_w13.out;have hsq:=hq.size;(repeat' (first|with_reducible assumption|with_reducible refine Below.drew ?_|with_reducible refine Below.alloc ?_ (by first|omega|exact Nat.le_refl _|(simp;omega)) _|with_reducible exact Below.refl _ _))) hb)
   have HB_w3_w14:=Lib.hid (below_then3' (a:=w3) (by have hq:=HB_w3_w13.out;have hsq:=hq.size;(repeat' (first|with_reducible assumption|with_reducible refine Below.drew ?_|with_reducible refine Below.alloc ?_ (by first|omega|exact Nat.le_refl _|(simp;omega)) _|with_reducible exact Below.refl _ _))) hb)
   have HB_w7_w14:=Lib.hid (below_then3' (a:=w7) (by have hq:=HB_w7_w13.out;have hsq:=hq.size;(repeat' (first|with_reducible assumption|with_reducible refine Below.drew ?_|with_reducible refine Below.alloc ?_ (by first|omega|exact Nat.le_refl _|(simp;omega)) _|with_reducible exact Below.refl _ _))) hb)
   have HB_w8b_w14:=Lib.hid (below_then3' (a:=w8b) (by have hq:=HB_w8b_w13.out;have hsq:=hq.size;(repeat' (first|with_reducible assumption|with_reducible refine Below.drew ?_|with_reducible refine Below.alloc ?_ (by first|omega|exact Nat.le_refl _|(simp;omega)) _|with_reducible exact Below.refl _ _))) hb)
   have HB_w9_w14:=Lib.hid (below_then3' (a:=w9) (by have hq:=HB_w9_w13.out;have hsq:=hq.size;(repeat' (first|with_reducible assumption|with_reducible refine Below.drew ?_|with_reducible refine Below.alloc ?_ (by first|omega|exact Nat.le_refl _|(simp;omega)) _|with_reducible exact Below.refl _ _))) hb)
   clear j6
   clear hb
   go_wp2_with fail
   go_ret
   exact ⟨rfl,HBA.out.trans (HB_wa_w14.out.mono HBA.out.size)⟩
end Go.Proofs.YtmooaepbdmengaaGreatDoor
