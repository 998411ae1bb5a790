/- Parts of the proof of SniffWritten: SwV. -/
import Derived.Test.YtmooaepbdmengaaGreatDoorZ26
import Derived.Deep.QuietTactic
namespace Go.Proofs.YtmooaepbdmengaaGreatDoor
open Go.RowKit
set_option linter.unusedVariables false
set_option linter.unusedSimpArgs false
def DtO (w:World) (e:Ending) (w':World):Prop:=(∃ s,e=.returned (.string s)∧AscS 130 s)∧Below w.heap.size w w'
theorem AscS.more {n m:Nat} {s:ByteArray} (h:AscS n s) (hm:n≤m):AscS m s:=⟨h.1,by have:=h.2;omega⟩
theorem AscS.alld {s:ByteArray} {n:Nat} (h:AllD (sl s)) (hs:s.size≤n):AscS n s:=⟨Asc.digs h,hs⟩
theorem AscS.ext {s:ByteArray} {n:Nat} (h:AscS n s) (p q:Nat):AscS n (s.extract p q):=by
 refine ⟨fun c hc=>h.1 c ?_,?_⟩
 ·unfold sl at hc ⊢
  rw [ByteArray.data_extract,Array.toList_extract] at hc
  exact List.mem_of_mem_drop (List.mem_of_mem_take hc)
 ·rw [ByteArray.size_extract];have:=h.2;omega
theorem asc_c (c:UInt8) (h:c.toNat < 128):AscS 1 ⟨#[c]⟩:=⟨fun x hx=>by
 obtain rfl:x=c:=by simpa [sl] using hx
 exact h,by simp [ByteArray.size]⟩
theorem asc_2 (c d:UInt8) (h:c.toNat < 128) (h':d.toNat < 128):AscS 2 ⟨#[c,d]⟩:=⟨fun x hx=>by
 have:x=c∨x=d:=by simpa [sl] using hx
 rcases this with rfl|rfl
 ·exact h
 ·exact h',by simp [ByteArray.size]⟩
theorem sz3 {a b:ByteArray} {n m:Nat} (ha:AscS n a) (hb:AscS m b) (h:n+m≤100000):¬ 9223372036854775807 < a.size+b.size:=by have:=ha.2;have:=hb.2;omega
set_option maxRecDepth 100000 in
set_option maxHeartbeats 8000000 in
theorem decText_calls (h l:Nat) (hh:h < 18446744073709551616) (hl:l < 18446744073709551616) (w:World):Calls Tryz.prog 99 #[.int .u64 (h:Nat),.int .u64 (l:Nat)] w fun e w'=>DtO w e w':=by
 have CS:=Lib.hid (fun W=>dsplit_calls h l hh hl W)
 have CX:=Lib.hid (fun a b ha hb W=>wtext_calls a b ha hb W)
 have CN:=Lib.hid (fun n h1 h2 W=>noughts_calls n h1 h2 W)
 have CI:=Lib.hid (fun v h1 h2 W=>int_calls v h1 h2 W)
 clear hh hl
 go_enter Tryz.func99,Tryz.ntmps99
 go_wp2_with fail
 refine (CS.out _).mono ?_
 rintro e w1 ⟨⟨k,ng,v,x,rfl,hk,⟨a,b,rfl,ha,hb⟩,hx1,hx2⟩,hb1⟩
 have HB1:=Lib.hid hb1
 have HAB:=Lib.hid (And.intro ha hb)
 clear hb1 ha hb CS
 go_upto_region 2 with fail
 obtain ⟨w2,hw2⟩:∃ W,W=w1.alloc (.cells #[.int .u64 (a:Nat),.int .u64 (b:Nat)] 147):=⟨_,rfl⟩
 rw [← hw2]
 obtain ⟨g7,hg7⟩:∃ g,w1.heap.size=g:=⟨_,rfl⟩
 have k7:w2.cell? ⟨g7,0,none⟩=some (.int .u64 (a:Nat)):=by rw [hw2,← hg7];simp [go_sem]
 have k7':w2.cell? ⟨g7,1,none⟩=some (.int .u64 (b:Nat)):=by rw [hw2,← hg7];simp [go_sem]
 have HB2:Hid (Below w.heap.size w w2):=by rw [hw2];exact HB1.out.alloc HB1.out.size _
 try rw [hg7]
 clear hw2 hg7 HB1
 obtain ⟨G,hG,HG⟩:∃ G,G=(if ng=true then (⟨#[45]⟩:ByteArray) else ⟨#[]⟩)∧Hid (AscS 1 G):=by
  refine ⟨_,rfl,?_⟩
  cases ng
  ·exact ⟨fun c hc=>by simp [sl] at hc,by simp [ByteArray.size]⟩
  ·exact asc_c 45 (by decide)
 go_upto_if 21 with fail
 go_cut [9] from 21 (fun v W=>v=.string G∧W=w2)
 case first=>
  cases ng with
  | true=>
   go_wp2_with fail
   go_meet
   case rel=>exact ⟨by rw [hG];rfl,rfl⟩
  | false=>
   go_wp2_with fail
   go_meet
   case rel=>exact ⟨by rw [hG];rfl,rfl⟩
 obtain ⟨rfl,rfl⟩:=hcut
 clear hG
 have hG1:G.size≤1:=HG.out.2
 have hk':k=3∨k=2∨k=1:=by omega
 clear hk
 rcases hk' with rfl|rfl|rfl
 ·go_wp2_with fail
  go_ret
  have:∀ c ∈ sl ⟨#[78,97,78]⟩,c.toNat < 128:=by decide
  exact ⟨⟨_,rfl,this,by show 3≤_;omega⟩,HB2.out⟩
 ·have hl8:¬ 9223372036854775807 < G.size+8:=by omega
  go_wp2_with fail
  go_ret
  have h8:AscS 8 ⟨#[73,110,102,105,110,105,116,121]⟩:=⟨by
   have:∀ c ∈ sl ⟨#[73,110,102,105,110,105,116,121]⟩,c.toNat < 128:=by decide
   exact this,by show 8≤_;omega⟩
  exact ⟨⟨_,rfl,HG.out.app h8 (by decide)⟩,HB2.out⟩
 have CX1:=Lib.hid (fun W=>CX.out a b HAB.out.1 HAB.out.2 W)
 go_wp2_with fail
 refine (CX1.out _).mono ?_
 rintro e w3 ⟨⟨D,rfl,hD,hD1,hD2⟩,hb3⟩
 have HB3:=Lib.hid (HB2.out.trans (hb3.mono HB2.out.size))
 have HD:=Lib.hid hD
 clear hD hb3 HB2 k7 k7' CX CX1
 have HDA:Hid (AscS 45 D):=AscS.alld HD.out hD2
 obtain ⟨n,hn⟩:∃ n:Nat,n=D.size:=⟨_,rfl⟩
 obtain ⟨y,hy⟩:∃ y:Int,y=x+(n:Int):=⟨_,rfl⟩
 obtain ⟨z,hz⟩:∃ z:Int,z=y - 1:=⟨_,rfl⟩
 have e1:IntKind.i64.wrap (x+(D.size:Int))=y:=(IntWalk.i64_in _ (by omega)).trans (by omega)
 have e2:IntKind.i64.wrap (y - 1)=z:=(IntWalk.i64_in _ (by omega)).trans (by omega)
 have hzx:z=x+(D.size:Int) - 1:=by omega
 have HZX:=Lib.hid hzx
 clear hn hy hz hzx
 by_cases hA:x≤0∧-6≤z
 ·obtain ⟨a1,a2⟩:=hA
  by_cases h0:x=0
  ·subst h0
   have l1:=sz3 HG.out HDA.out (by decide)
   go_wp2_with fail
   go_ret
   exact ⟨⟨_,rfl,HG.out.app HDA.out (by decide)⟩,HB3.out⟩
  ·have d0:(x == 0)=false:=by simp [h0]
   obtain ⟨q,hq⟩:∃ q:Int,q=1 - x:=⟨_,rfl⟩
   obtain ⟨r,hr⟩:∃ r:Int,r=q - (D.size:Int):=⟨_,rfl⟩
   have hzz:=HZX.out
   have e3:IntKind.i64.wrap (1 - x)=q:=(IntWalk.i64_in _ (by omega)).trans (by omega)
   have e4:IntKind.i64.wrap (q - (D.size:Int))=r:=(IntWalk.i64_in _ (by omega)).trans (by omega)
   have CN1:=Lib.hid (fun W=>CN.out r (by omega) (by omega) W)
   have HR:Hid (r=1 - x - (D.size:Int)∧r≤6):=by show _∧_;omega
   have hx0:x < 0:=by omega
   clear hq hr hzz h0
   go_wp2_with fail
   refine (CN1.out _).mono ?_
   rintro e w4 ⟨⟨Z,rfl,hZ⟩,rfl⟩
   have hZ6:Z.size≤6:=by have:=hZ.2;have:=HR.out;omega
   have HZA:Hid (AscS 6 Z):=AscS.alld hZ.1 hZ6
   have l1:=sz3 HZA.out HDA.out (by decide)
   obtain ⟨F,hF⟩:∃ F,Z++D=F:=⟨_,rfl⟩
   have HFA:Hid (AscS 51 F):=by rw [← hF];exact HZA.out.app HDA.out (by decide)
   have hFs:F.size=Z.size+D.size:=by rw [← hF,ByteArray.size_append]
   have hj:∃ j:Nat,(F.size:Int)+x=(j:Int)∧1≤j∧j≤F.size:=by
    have:=hZ.2;have:=HR.out
    exact ⟨((F.size:Int)+x).toNat,by omega,by omega,by omega⟩
   obtain ⟨j,hj1,hj2,hj3⟩:=hj
   have e5:IntKind.i64.wrap ((F.size:Int)+x)=(j:Int):=(IntWalk.i64_in _ (by omega)).trans hj1
   have i1:(0:Int)≤(j:Int):=by omega
   have i2:(j:Int)≤(F.size:Int):=by omega
   have HP:Hid (AscS 51 (F.extract 0 j)):=HFA.out.ext 0 j
   have HQ:Hid (AscS 51 (F.extract j F.size)):=HFA.out.ext j F.size
   obtain ⟨Pp,hP⟩:∃ P,F.extract 0 j=P:=⟨_,rfl⟩
   obtain ⟨Qq,hQ⟩:∃ Q,F.extract j F.size=Q:=⟨_,rfl⟩
   rw [hP] at HP
   rw [hQ] at HQ
   have l2:=sz3 HG.out HP.out (by decide)
   obtain ⟨X1,hX1⟩:∃ X,G++Pp=X:=⟨_,rfl⟩
   have HX1:Hid (AscS 52 X1):=by rw [← hX1];exact HG.out.app HP.out (by decide)
   have l3:¬ 9223372036854775807 < X1.size+1:=sz1 52 HX1.out.2 (by decide)
   obtain ⟨X2,hX2⟩:∃ X,X1++(⟨#[46]⟩:ByteArray)=X:=⟨_,rfl⟩
   have HX2:Hid (AscS 53 X2):=by rw [← hX2];exact HX1.out.app (asc_c 46 (by decide)) (by decide)
   have l4:=sz3 HX2.out HQ.out (by decide)
   clear hZ hZ6 hFs hj1 hj2 hj3
   go_wp2_with fail
   go_quiet (fail)
   go_wp2_with fail
   go_ret
   exact ⟨⟨_,rfl,HX2.out.app HQ.out (by decide)⟩,Below_drewN HB3.out⟩
 have HP:Hid (AscS 45 (D.extract 0 1)):=HDA.out.ext 0 1
 have HQ:Hid (AscS 45 (D.extract 1 D.size)):=HDA.out.ext 1 D.size
 obtain ⟨Pp,hP⟩:∃ P,D.extract 0 1=P:=⟨_,rfl⟩
 obtain ⟨Qq,hQ⟩:∃ Q,D.extract 1 D.size=Q:=⟨_,rfl⟩
 rw [hP] at HP
 rw [hQ] at HQ
 have i2:(1:Int)≤(D.size:Int):=by omega
 have l2:=sz3 HG.out HP.out (by decide)
 obtain ⟨X1,hX1⟩:∃ X,G++Pp=X:=⟨_,rfl⟩
 have HX1:Hid (AscS 46 X1):=by rw [← hX1];exact HG.out.app HP.out (by decide)
 have HXS:=Lib.hid (show X1.size≤46 from HX1.out.2)
 have hzb:-6300≤z∧z≤20000:=by have:=HZX.out;omega
 have HZB:=Lib.hid hzb
 clear hzb
 have TAIL:True:=trivial
 by_cases hx0:x≤0
 ·have n6:¬ -6≤z:=fun h=>hA ⟨hx0,h⟩
  clear hA
  
  go_upto_if 76 with fail
  go_cut [12] from 74 to 81 (fun v W=>(∃ Y:ByteArray,v=.string Y∧Hid (AscS 100 Y))∧W=w3)
  case first=>
   by_cases h1:1 < D.size
   ·have k1:(1:Int) < (D.size:Int):=by omega
    have l3:¬ 9223372036854775807 < X1.size+1:=sz1 46 HXS.out (by decide)
    obtain ⟨X2,hX2⟩:∃ X,X1++(⟨#[46]⟩:ByteArray)=X:=⟨_,rfl⟩
    have HX2:Hid (AscS 47 X2):=by rw [← hX2];exact HX1.out.app (asc_c 46 (by decide)) (by decide)
    have l4:=sz3 HX2.out HQ.out (by decide)
    have HF:Hid (AscS 100 (X2++Qq)):=HX2.out.app HQ.out (by decide)
    clear h1
    go_wp2_with fail
    go_meet
    case rel=>exact ⟨⟨_,rfl,HF⟩,rfl⟩
   ·have k1:¬ (1:Int) < (D.size:Int):=by omega
    have HF:Hid (AscS 100 X1):=HX1.out.more (by decide)
    clear h1
    go_wp2_with fail
    go_meet
    case rel=>exact ⟨⟨_,rfl,HF⟩,rfl⟩
  obtain ⟨⟨Y,rfl,HY⟩,rfl⟩:=hcut
  have HYS:=Lib.hid (show Y.size≤100 from HY.out.2)
  by_cases hz0:z < 0
  ·have n1:IntKind.i64.wrap (-z)=-z:=IntWalk.i64_in _ (by have:=HZB.out;omega)
   have HVL:=Lib.hid (digL_num (-z).natAbs (by have:=HZB.out;omega))
   have CI1:=Lib.hid (fun W=>CI.out (-z) (by have:=HZB.out;omega) (by have:=HZB.out;omega) W)
   have hvi:intL (-z)=digL 19 (-z).natAbs []:=by unfold intL;rw [if_neg (by omega)]
   rw [hvi] at CI1
   obtain ⟨L,hL⟩:∃ L,digL 19 (-z).natAbs []=L:=⟨_,rfl⟩
   rw [hL] at HVL CI1
   obtain ⟨T,hT⟩:∃ T,txt L=T:=⟨_,rfl⟩
   rw [hT] at CI1
   have HTA:Hid (AscS 20 T):=by rw [← hT];exact AscS.alld (by rw [sl_txt];exact AllD.of_dig HVL.out.1.1) (by rw [txt_size];exact HVL.out.2)
   have l5:¬ 9223372036854775807 < Y.size+2:=by have:=HYS.out;omega
   obtain ⟨Y2,hY2⟩:∃ X,Y++(⟨#[69,45]⟩:ByteArray)=X:=⟨_,rfl⟩
   have HY2:Hid (AscS 102 Y2):=by rw [← hY2];exact HY.out.app (asc_2 69 45 (by decide) (by decide)) (by decide)
   have l6:=sz3 HY2.out HTA.out (by decide)
   clear hvi hL hT HVL
   go_wp2_with fail
   refine (CI1.out _).mono ?_
   rintro e w5 ⟨rfl,hb5⟩
   have HB5:=Lib.hid (HB3.out.trans (hb5.mono HB3.out.size))
   clear hb5
   go_wp2_with fail
   go_ret
   exact ⟨⟨_,rfl,HY2.out.app HTA.out (by decide)⟩,HB5.out⟩
  ·have n1:¬ z < 0:=hz0
   have HVL:=Lib.hid (digL_num (z).natAbs (by have:=HZB.out;omega))
   have CI1:=Lib.hid (fun W=>CI.out (z) (by have:=HZB.out;omega) (by have:=HZB.out;omega) W)
   have hvi:intL (z)=digL 19 (z).natAbs []:=by unfold intL;rw [if_neg (by omega)]
   rw [hvi] at CI1
   obtain ⟨L,hL⟩:∃ L,digL 19 (z).natAbs []=L:=⟨_,rfl⟩
   rw [hL] at HVL CI1
   obtain ⟨T,hT⟩:∃ T,txt L=T:=⟨_,rfl⟩
   rw [hT] at CI1
   have HTA:Hid (AscS 20 T):=by rw [← hT];exact AscS.alld (by rw [sl_txt];exact AllD.of_dig HVL.out.1.1) (by rw [txt_size];exact HVL.out.2)
   have l5:¬ 9223372036854775807 < Y.size+2:=by have:=HYS.out;omega
   obtain ⟨Y2,hY2⟩:∃ X,Y++(⟨#[69,43]⟩:ByteArray)=X:=⟨_,rfl⟩
   have HY2:Hid (AscS 102 Y2):=by rw [← hY2];exact HY.out.app (asc_2 69 43 (by decide) (by decide)) (by decide)
   have l6:=sz3 HY2.out HTA.out (by decide)
   clear hvi hL hT HVL
   go_wp2_with fail
   refine (CI1.out _).mono ?_
   rintro e w5 ⟨rfl,hb5⟩
   have HB5:=Lib.hid (HB3.out.trans (hb5.mono HB3.out.size))
   clear hb5
   go_wp2_with fail
   go_ret
   exact ⟨⟨_,rfl,HY2.out.app HTA.out (by decide)⟩,HB5.out⟩
 ·clear hA
  
  go_upto_if 76 with fail
  go_cut [12] from 74 to 81 (fun v W=>(∃ Y:ByteArray,v=.string Y∧Hid (AscS 100 Y))∧W=w3)
  case first=>
   by_cases h1:1 < D.size
   ·have k1:(1:Int) < (D.size:Int):=by omega
    have l3:¬ 9223372036854775807 < X1.size+1:=sz1 46 HXS.out (by decide)
    obtain ⟨X2,hX2⟩:∃ X,X1++(⟨#[46]⟩:ByteArray)=X:=⟨_,rfl⟩
    have HX2:Hid (AscS 47 X2):=by rw [← hX2];exact HX1.out.app (asc_c 46 (by decide)) (by decide)
    have l4:=sz3 HX2.out HQ.out (by decide)
    have HF:Hid (AscS 100 (X2++Qq)):=HX2.out.app HQ.out (by decide)
    clear h1
    go_wp2_with fail
    go_meet
    case rel=>exact ⟨⟨_,rfl,HF⟩,rfl⟩
   ·have k1:¬ (1:Int) < (D.size:Int):=by omega
    have HF:Hid (AscS 100 X1):=HX1.out.more (by decide)
    clear h1
    go_wp2_with fail
    go_meet
    case rel=>exact ⟨⟨_,rfl,HF⟩,rfl⟩
  obtain ⟨⟨Y,rfl,HY⟩,rfl⟩:=hcut
  have HYS:=Lib.hid (show Y.size≤100 from HY.out.2)
  by_cases hz0:z < 0
  ·have n1:IntKind.i64.wrap (-z)=-z:=IntWalk.i64_in _ (by have:=HZB.out;omega)
   have HVL:=Lib.hid (digL_num (-z).natAbs (by have:=HZB.out;omega))
   have CI1:=Lib.hid (fun W=>CI.out (-z) (by have:=HZB.out;omega) (by have:=HZB.out;omega) W)
   have hvi:intL (-z)=digL 19 (-z).natAbs []:=by unfold intL;rw [if_neg (by omega)]
   rw [hvi] at CI1
   obtain ⟨L,hL⟩:∃ L,digL 19 (-z).natAbs []=L:=⟨_,rfl⟩
   rw [hL] at HVL CI1
   obtain ⟨T,hT⟩:∃ T,txt L=T:=⟨_,rfl⟩
   rw [hT] at CI1
   have HTA:Hid (AscS 20 T):=by rw [← hT];exact AscS.alld (by rw [sl_txt];exact AllD.of_dig HVL.out.1.1) (by rw [txt_size];exact HVL.out.2)
   have l5:¬ 9223372036854775807 < Y.size+2:=by have:=HYS.out;omega
   obtain ⟨Y2,hY2⟩:∃ X,Y++(⟨#[69,45]⟩:ByteArray)=X:=⟨_,rfl⟩
   have HY2:Hid (AscS 102 Y2):=by rw [← hY2];exact HY.out.app (asc_2 69 45 (by decide) (by decide)) (by decide)
   have l6:=sz3 HY2.out HTA.out (by decide)
   clear hvi hL hT HVL
   go_wp2_with fail
   refine (CI1.out _).mono ?_
   rintro e w5 ⟨rfl,hb5⟩
   have HB5:=Lib.hid (HB3.out.trans (hb5.mono HB3.out.size))
   clear hb5
   go_wp2_with fail
   go_ret
   exact ⟨⟨_,rfl,HY2.out.app HTA.out (by decide)⟩,HB5.out⟩
  ·have n1:¬ z < 0:=hz0
   have HVL:=Lib.hid (digL_num (z).natAbs (by have:=HZB.out;omega))
   have CI1:=Lib.hid (fun W=>CI.out (z) (by have:=HZB.out;omega) (by have:=HZB.out;omega) W)
   have hvi:intL (z)=digL 19 (z).natAbs []:=by unfold intL;rw [if_neg (by omega)]
   rw [hvi] at CI1
   obtain ⟨L,hL⟩:∃ L,digL 19 (z).natAbs []=L:=⟨_,rfl⟩
   rw [hL] at HVL CI1
   obtain ⟨T,hT⟩:∃ T,txt L=T:=⟨_,rfl⟩
   rw [hT] at CI1
   have HTA:Hid (AscS 20 T):=by rw [← hT];exact AscS.alld (by rw [sl_txt];exact AllD.of_dig HVL.out.1.1) (by rw [txt_size];exact HVL.out.2)
   have l5:¬ 9223372036854775807 < Y.size+2:=by have:=HYS.out;omega
   obtain ⟨Y2,hY2⟩:∃ X,Y++(⟨#[69,43]⟩:ByteArray)=X:=⟨_,rfl⟩
   have HY2:Hid (AscS 102 Y2):=by rw [← hY2];exact HY.out.app (asc_2 69 43 (by decide) (by decide)) (by decide)
   have l6:=sz3 HY2.out HTA.out (by decide)
   clear hvi hL hT HVL
   go_wp2_with fail
   refine (CI1.out _).mono ?_
   rintro e w5 ⟨rfl,hb5⟩
   have HB5:=Lib.hid (HB3.out.trans (hb5.mono HB3.out.size))
   clear hb5
   go_wp2_with fail
   go_ret
   exact ⟨⟨_,rfl,HY2.out.app HTA.out (by decide)⟩,HB5.out⟩
end Go.Proofs.YtmooaepbdmengaaGreatDoor
