/- Parts of the proof of SniffWritten: SwJ, SwL, BaseP, BaseS, BaseD, BaseT, BaseR1, BaseU, BaseV. -/
import Derived.Test.YtmooaepbdmengaaGreatDoorZ30
import Derived.Test.YtmooaepbdmengaaGreatDoorZ11
import Derived.Test.YtmooaepbdmengaaGreatDoorZ01
import Derived.Test.YtmooaepbdmengaaGreatDoorZ02
import Derived.Deep.QuietTactic
import Derived.Deep.RegionHeld3
import Derived.Deep.DrawnRows
import Derived.Deep.CutRange
namespace Go.Proofs.YtmooaepbdmengaaGreatDoor
open Go.RowKit
set_option linter.unusedVariables false
set_option linter.unusedSimpArgs false
theorem splK_fin {b:Nat} (hb:b < 18446744073709551616) (h:(splK b).1=2):0 < (splK b).2.2.1∧(splK b).2.2.1 < 9007199254740992∧-1074≤(splK b).2.2.2∧(splK b).2.2.2≤971∧1≤b % 9223372036854775808∧b % 9223372036854775808 < 9218868437227405312:=by
 unfold splK at h ⊢
 split at h
 ·simp at h
 ·split at h
  ·simp at h
  ·split at h
   ·simp at h
   ·rename_i h1 h2 h3
    rw [if_neg h1,if_neg h2,if_neg h3]
    split<;>(dsimp only;omega)
theorem splK_low {p:Nat} (hp:p < 9218868437227405312):(splK p).2.2.1 < 9007199254740992∧-1074≤(splK p).2.2.2∧(splK p).2.2.2≤971:=by
 unfold splK
 split
 ·dsimp only;omega
 ·split
  ·dsimp only;omega
  ·split
   ·dsimp only;omega
   ·split<;>(dsimp only;omega)
theorem sl_take (a:ByteArray) (k:Nat):sl (a.extract 0 k)=(sl a).take k:=by
 unfold sl;simp [ByteArray.data_extract]
theorem Dg.take {l:List UInt8} (h:Dg l) {n:Nat} (h1:1≤n):Dg (l.take n):=by
 obtain ⟨c,r,rfl⟩:∃ c r,l=c::r:=by
  cases l with
  | nil=>exact absurd rfl h.2.1
  | cons c r=>exact ⟨c,r,rfl⟩
 obtain ⟨m,rfl⟩:∃ m,n=m+1:=⟨n - 1,by omega⟩
 exact ⟨fun x hx=>h.1 x (List.mem_of_mem_take hx),by simp,by simpa using h.2.2⟩
theorem Dg.pop {a:ByteArray} (h:Dg (sl a)) {k:Nat} (hs:a.size=k+1) (hk:k < a.size) (h48:(a[k]'hk).toNat=48):Dg (sl (a.extract 0 k)):=by
 rw [sl_take]
 refine h.take ?_
 rcases Nat.eq_zero_or_pos k with rfl|h0
 ·exfalso
  have e:=sl_drop hk
  rw [List.drop_zero] at e
  have h2:=h.2.2
  rw [e] at h2
  exact h2 (UInt8.toNat_inj.1 (by simpa using h48))
 ·exact h0
theorem Dg.pos {a:ByteArray} (h:Dg (sl a)):0 < a.size:=by
 have:=List.length_pos_iff.2 h.2.1
 rwa [sl_len] at this
def ExO3 (e:Ending):Prop:=∃ (b:ByteArray) (x:Int),e=.returned (.tuple #[.string b,.int .i64 x,.bool true])∧Dg (sl b)∧b.size≤18∧-1101≤x∧x≤1001
set_option maxRecDepth 100000 in
set_option maxHeartbeats 8000000 in
theorem fdigits_calls (b:Nat) (hb:b < 18446744073709551616) (hk2:(splK b).1=2) (w:World):Calls Tryz.prog 92 #[.int .u64 (b:Nat)] w fun e w'=>ExO3 e∧Below w.heap.size w w':=by
 obtain ⟨f1,f2,f3,f4,f5,f6⟩:=splK_fin hb hk2
 obtain ⟨p,hp⟩:∃ p,p=b % 9223372036854775808:=⟨_,rfl⟩
 rw [← hp] at f5 f6
 have hgap:=split_gap b p hb hk2 hp
 have CS:=Lib.hid (fun W=>rsplit_calls b hb W)
 have CS2:=Lib.hid (fun W=>rsplit_calls (p - 1) (by omega) W)
 obtain ⟨g1,g2,g3⟩:=splK_low (p:=p - 1) (by omega)
 obtain ⟨p1,hp1⟩:∃ p1,p1=p - 1:=⟨_,rfl⟩
 rw [← hp1] at CS2 g1 g2 g3 hgap
 generalize splK b=S at CS hk2 f1 f2 f3 f4 hgap
 generalize splK p1=S2 at CS2 g1 g2 g3 hgap
 obtain ⟨k,ng,m,ee⟩:=S
 obtain ⟨k2,ng2,m2,e2⟩:=S2
 dsimp only at hk2 f1 f2 f3 f4 g1 g2 g3 hgap
 subst hk2
 have HGAP:=Lib.hid hgap
 have HF:=Lib.hid (show 0 < m∧m < 9007199254740992∧-1074≤ee from ⟨f1,f2,f3⟩)
 clear hgap
 have CE:=Lib.hid (fun m h0 h1 ee h2 h3 W=>exact_calls m h0 h1 ee h2 h3 W)
 have CM:=Lib.hid (fun d h1 h2 x h3 h4 W=>more_calls d h1 h2 x h3 h4 W)
 have CC:=Lib.hid (fun a b x y W=>cmpDec_calls a b x y W)
 have CW:=Lib.hid (fun p x y W=>within_calls p x y W)
 have q1:IntKind.u64.wrap (p:Int)=(p:Int):=by rw [IntKind.wrap_u64];omega
 have q2:IntKind.u64.wrap ((p:Int) - 1)=(p1:Int):=by rw [IntKind.wrap_u64];omega
 obtain ⟨mm,hmm⟩:∃ x,x=2 * m:=⟨_,rfl⟩
 obtain ⟨mh,hmh⟩:∃ x,x=mm+1:=⟨_,rfl⟩
 have q3:IntKind.u64.wrap (2 * (m:Int))=(mm:Int):=by rw [IntKind.wrap_u64];omega
 have q4:IntKind.u64.wrap ((mm:Int)+1)=(mh:Int):=by rw [IntKind.wrap_u64];omega
 have q5:IntKind.i64.wrap (ee - 1)=ee - 1:=IntWalk.i64_in _ (by omega)
 obtain ⟨p2,hp2⟩:∃ x,x=2 * p:=⟨_,rfl⟩
 have q6:IntKind.u64.wrap ((b:Int) * 2)=(p2:Int):=by rw [IntKind.wrap_u64];omega
 have q7:(p2:Int) / 2=(p:Int):=by omega
 have HB0:=Lib.hid (Below.refl w.heap.size w)
 have hmh':0 < mh∧mh < 18446744073709551616:=by omega
 have HMH:=Lib.hid hmh'
 have HMV:Hid (mh=2 * m+1):=Lib.hid (by omega)
 have HP1:=Lib.hid hp1
 clear hp hp2 hmm hmh hmh' hp1
 go_enter Tryz.func92,Tryz.ntmps92
 go_wp2_with fail
 refine (CS.out _).mono ?_
 rintro e w1 ⟨rfl,rfl⟩
 go_wp2_with fail
 refine (CE.out m f1 (by omega) ee (by omega) (by omega) _).mono ?_
 rintro e w1 ⟨⟨D,x,rfl,hD,hDs,hx1,hx2,hvD⟩,hb1⟩
 have HVD:=Lib.hid hvD
 clear hvD
 have HB1:=Lib.hid hb1
 clear hb1
 go_wp2_with fail
 refine (CE.out mh HMH.out.1 HMH.out.2 (ee - 1) (by omega) (by omega) _).mono ?_
 rintro e w2 ⟨⟨Hi,zh,rfl,hi1,hi2,hi3,-,hi4⟩,hb2⟩
 have HHI:=Lib.hid (And.intro hi1 (And.intro hi2 (And.intro hi3 hi4)))
 clear hi1 hi2 hi3 hi4
 have HB2:=Lib.hid (HB1.out.trans (hb2.mono HB1.out.size))
 clear hb2 HB1
 go_wp2_with fail
 refine (CS2.out _).mono ?_
 rintro e w3 ⟨rfl,rfl⟩
 go_upto_if 60 with fail
 go_cut [8] from 59 to 60 (fun v W=>(∃ e3:Int,v=.int .i64 e3∧-1074≤e3∧e3≤971∧e3=if p=1 then -1074 else e2)∧W=w2)
 case first=>
  by_cases h1:p=1
  ·subst h1
   go_wp2_with fail
   go_meet
   case rel=>exact ⟨⟨_,rfl,by omega,by omega,by simp⟩,rfl⟩
  ·have d1:((p:Int) == 1)=false:=by simp;omega
   go_wp2_with fail
   go_meet
   case rel=>exact ⟨⟨_,rfl,by omega,by omega,by rw [if_neg h1]⟩,rfl⟩
 obtain ⟨⟨e3,rfl,he3,he4,he5⟩,rfl⟩:=hcut
 have HGAP:Hid (Gap m ee m2 e3):=Lib.hid (by rw [he5];exact HGAP.out)
 clear he5
 obtain ⟨ml,hml⟩:∃ x,x=2 * m2:=⟨_,rfl⟩
 obtain ⟨mk,hmk⟩:∃ x,x=ml+1:=⟨_,rfl⟩
 have q3':IntKind.u64.wrap (2 * (m2:Int))=(ml:Int):=by rw [IntKind.wrap_u64];omega
 have q4':IntKind.u64.wrap ((ml:Int)+1)=(mk:Int):=by rw [IntKind.wrap_u64];omega
 have q5':IntKind.i64.wrap (e3 - 1)=e3 - 1:=IntWalk.i64_in _ (by omega)
 have hmk':0 < mk∧mk < 18446744073709551616:=by omega
 have HMK:=Lib.hid hmk'
 have HMW:Hid (mk=2 * m2+1):=Lib.hid (by omega)
 clear hml hmk hmk'
 go_wp2_with fail
 refine (CE.out mk HMK.out.1 HMK.out.2 (e3 - 1) (by omega) (by omega) _).mono ?_
 rintro e w4 ⟨⟨Lo,zl,rfl,lo1,lo2,lo3,-,lo4⟩,hb4⟩
 have HLO:=Lib.hid (And.intro lo1 (And.intro lo2 (And.intro lo3 lo4)))
 clear lo1 lo2 lo3 lo4
 have HB4:=Lib.hid (HB2.out.trans (hb4.mono HB2.out.size))
 clear hb4 HB2 CS CS2 CE HMK HMH q1 q2 q3 q4 q5 q6 q7 q3' q4' q5' HB0 f1 f2 f3 f4 g1 g2 g3
 have HD:=Lib.hid hD
 have H18:Hid (18 < D.size→∀ Z:ByteArray,Dg (sl Z)→sl Z=strip ((sl D).take 18)→withR p (cmpR (sl Z) x (sl Lo) zl) (cmpR (sl Z) x (sl Hi) zh)=true):=Lib.hid fun h Z hZ hZ2=>by
  have l1:=sl_len D
  have l2:=sl_len Lo
  have l3:=sl_len Hi
  have vL:=HLO.out.2.2.2
  have vH:=HHI.out.2.2.2
  rw [HMW.out] at vL
  rw [HMV.out] at vH
  have h9:=eighteen hD HLO.out.1 HHI.out.1 hZ (by omega) (by have:=HLO.out.2.1;omega) (by have:=HHI.out.2.1;omega) (by omega) HLO.out.2.2.1 HHI.out.2.2.1 HVD.out vL vH HGAP.out HF.out.1 HF.out.2.1 HF.out.2.2 (by omega) hZ2
  rw [h9.1,h9.2]
  exact with_yes p
 clear hD HLO HHI HMW HMV HGAP HF HVD
 go_wp2_with fail
 go_loopw [16,17,18,19,20,21,22,23] (fun n _ _ _ _ _ _ _ wr=>∃ q:Nat,n=.int .i64 (q:Nat)∧1≤q∧q≤D.size∧q≤18∧Hid (Below w.heap.size w wr)) (fun n _ _ _ _ _ _ _ _=>D.size - (intOf n).toNat)
 case atStart=>exact ⟨1,rfl,by omega,HD.out.pos,by omega,HB4⟩
 case round=>
  obtain ⟨q,rfl,hq1,hqD,hq18,HB⟩:=hrel
  by_cases hlt:q < D.size
  case neg=>
   go_wp2_with fail
   refine bodyPost_ret (v:=.tuple #[.string D,.int .i64 x,.bool true]) (by simp [results,Tryz.results92,go_sem, *]) rfl ?_
   exact ⟨⟨D,x,rfl,HD.out,by omega,by omega,by omega⟩,HB.out⟩
  have i1:(0:Int)≤(q:Int):=by omega
  have i2:(q:Int)≤(D.size:Int):=by omega
  obtain ⟨A,hA⟩:∃ A,D.extract 0 q=A:=⟨_,rfl⟩
  obtain ⟨B,hB⟩:∃ B,D.extract q D.size=B:=⟨_,rfl⟩
  have HA:Hid (Dg (sl A)∧A.size≤960):=by
   refine ⟨by rw [← hA,sl_take];exact HD.out.take hq1,?_⟩
   rw [← hA];simp [ByteArray.size_extract];omega
  have HAE:=Lib.hid hA
  have HAQ:Hid (A.size=q):=Lib.hid (by rw [← hA];simp [ByteArray.size_extract];omega)
  have HAS:Hid (sl A=(sl D).take q):=Lib.hid (by rw [← hA,sl_take])
  go_wp2_with fail
  go_quiet (fail)
  obtain ⟨wq,hwq⟩:∃ wq,wq=wr.drewN nq:=⟨_,rfl⟩
  rw [← hwq]
  have HBq:Hid (Below w.heap.size w wq):=by rw [hwq];exact Below_drewN HB.out
  clear hwq HB
  go_wp2_with fail
  go_loopw [17] (fun a wr=>∃ Z:ByteArray,a=.string Z∧Hid (Dg (sl Z)∧Z.size≤q∧strip (sl Z)=strip (sl A))∧wr=wq) (fun a _=>match a with|.string Z=>Z.size|_=>0)
  case atStart=>exact ⟨A,rfl,Lib.hid ⟨HA.out.1,by rw [HAQ.out];omega,rfl⟩,rfl⟩
  case round=>
   obtain ⟨Z,rfl,HZ,rfl⟩:=hrel
   obtain ⟨k,hk⟩:∃ k,Z.size=k+1:=⟨Z.size - 1,by have:=HZ.out.1.pos;omega⟩
   have hkz:k < Z.size:=by omega
   have hsz:(sl Z).length=k+1:=by rw [sl_len];exact hk
   have hne:sl Z≠[]:=HZ.out.1.2.1
   have hat:(sl Z).getD ((sl Z).length - 1) 0=Z[k]'hkz:=by rw [hsz,Nat.add_sub_cancel];exact sl_at hkz
   have HP:Hid ((Z[k]'hkz).toNat=48→Dg (sl (Z.extract 0 k))∧(Z.extract 0 k).size≤q∧strip (sl (Z.extract 0 k))=strip (sl A)):=fun h=>⟨HZ.out.1.pop hk hkz h,by have:=HZ.out.2.1;simp [ByteArray.size_extract];omega,by
    have h48:(sl Z).getD ((sl Z).length - 1) 0=48:=by rw [hat];exact UInt8.toNat_inj.1 h
    have h9:=strip_dropLast hne h48
    rw [sl_take,← HZ.out.2.2,h9,hsz,Nat.add_sub_cancel]⟩
   have HQ:Hid ((Z[k]'hkz).toNat≠48→sl Z=strip (sl A)):=fun h=>by
    rw [← HZ.out.2.2,strip_stop hne (by rw [hat];intro e;exact h (by rw [e];rfl))]
   clear hsz hne hat
   have hk960:k≤960:=by have:=HZ.out.2.1;omega
   obtain ⟨C,hC⟩:∃ C,C=decide ((Z[k]'hkz).toNat=48):=⟨_,rfl⟩
   have e1:(0:Int)≤(k:Int):=by omega
   have e2:(k:Int) < (Z.size:Int):=by omega
   have e3:IntKind.i64.wrap ((Z.size:Int) - 1)=(k:Int):=(IntWalk.i64_in _ (by omega)).trans (by omega)
   have e4:decide ((0:Int) < (Z.size:Int))=true:=by simp;omega
   have e4':decide (0 < Z.size)=true:=by simp;omega
   have HK:=Lib.hid hk
   have hsm:(Z.extract 0 k).size < Z.size:=by simp [ByteArray.size_extract];omega
   clear hk
   go_upto_region 15 with fail
   go_cut [92] from 82 to 97 (fun p W=>p=.bool C∧W=wr)
   case first=>
    by_cases h48:(Z[k]'hkz).toNat=48
    ·have hI:((Z[k]'hkz).toNat:Int)=48:=by rw [h48];rfl
     have hc9:C=true:=by rw [hC];exact decide_eq_true h48
     clear hC h48
     go_wp2_with fail
     go_meet
     case rel=>exact ⟨by rw [hc9],rfl⟩
    ·have hI:(((Z[k]'hkz).toNat:Int) == 48)=false:=by simp only [beq_eq_false_iff_ne];intro e;exact h48 (Int.ofNat_inj.1 e)
     have hc9:C=false:=by rw [hC];exact decide_eq_false h48
     clear hC h48
     go_wp2_with fail
     go_meet
     case rel=>exact ⟨by rw [hc9],rfl⟩
   obtain ⟨rfl,rfl⟩:=hcut
   have HSM:=Lib.hid hsm
   clear hsm
   cases C with
   | true=>
    have HP:=Lib.hid (HP.out (of_decide_eq_true hC.symm))
    clear hC HQ
    go_wp2_with fail
    go_roundw
    case rel=>exact ⟨_,rfl,HP,by first|trivial|rfl⟩
    case measure=>exact HSM.out
   | false=>
   have HQ:=Lib.hid (HQ.out (of_decide_eq_false hC.symm))
   clear hC HP HSM HK e1 e2 e3 e4 e4'
   have HA1:Hid (Dg (sl A)∧A.size≤960):=HA
   have CM1:=Lib.hid (fun W=>CM.out A HA1.out.1 HA1.out.2 x (by omega) (by omega) W)
   go_wp2_with fail
   refine (CM1.out _).mono ?_
   rintro e w5 ⟨⟨Cs,y,rfl,hCd,hCs,hy1,hy2⟩,hb5⟩
   have HC5:Hid (Dg (sl Cs)∧Cs.size≤q):=⟨hCd,by rw [← HAQ.out];exact hCs⟩
   have HB5:=Lib.hid (HBq.out.trans (hb5.mono HBq.out.size))
   clear hCd hCs hb5
   go_wp2_with fail
   refine (CC.out Z Lo x zl _).mono ?_
   rintro e w6 ⟨rfl,rfl⟩
   obtain ⟨n1,hn1⟩:∃ n,n=cmpR (sl Z) x (sl Lo) zl:=⟨_,rfl⟩
   rw [← hn1]
   have HN1:=Lib.hid hn1
   clear hn1
   go_wp2_with fail
   refine (CC.out Z Hi x zh _).mono ?_
   rintro e w6 ⟨rfl,rfl⟩
   obtain ⟨n2,hn2⟩:∃ n,n=cmpR (sl Z) x (sl Hi) zh:=⟨_,rfl⟩
   rw [← hn2]
   have HN2:=Lib.hid hn2
   clear hn2
   go_wp2_with fail
   refine (CW.out p n1 n2 _).mono ?_
   rintro e w6 ⟨rfl,rfl⟩
   obtain ⟨F,hF⟩:∃ F,F=withR p n1 n2:=⟨_,rfl⟩
   rw [← hF]
   have HF18:Hid (q=18→F=true):=Lib.hid fun h=>by
    rw [hF,HN1.out,HN2.out]
    exact H18.out (by omega) Z HZ.out.1 (by rw [HQ.out,HAS.out,h])
   clear hF HN1 HN2
   go_wp2_with fail
   refine (CC.out Cs Lo y zl _).mono ?_
   rintro e w6 ⟨rfl,rfl⟩
   obtain ⟨n3,hn3⟩:∃ n,n=cmpR (sl Cs) y (sl Lo) zl:=⟨_,rfl⟩
   rw [← hn3]
   clear hn3
   go_wp2_with fail
   refine (CC.out Cs Hi y zh _).mono ?_
   rintro e w6 ⟨rfl,rfl⟩
   obtain ⟨n4,hn4⟩:∃ n,n=cmpR (sl Cs) y (sl Hi) zh:=⟨_,rfl⟩
   rw [← hn4]
   clear hn4
   go_wp2_with fail
   refine (CW.out p n3 n4 _).mono ?_
   rintro e w6 ⟨rfl,rfl⟩
   obtain ⟨G,hG⟩:∃ G,G=withR p n3 n4:=⟨_,rfl⟩
   rw [← hG]
   clear hG
   have s1:IntKind.i64.wrap ((q:Int)+1)=((q+1:Nat):Int):=(IntWalk.i64_in _ (by omega)).trans (by omega)
   cases F with
   | true=>
    cases G with
    | true=>
     go_upto_region 21 with fail
     go_cut [23] from 134 to 148 (fun v W=>(∃ r:Bool,v=.bool r)∧W=w5)
     case first=>
      obtain ⟨q9,hq9⟩:∃ q9,q=q9+1:=⟨q - 1,by omega⟩
      subst hq9
      have hqd:q9 < D.size:=by omega
      have t1:((q9:Int)) < (D.size:Int):=by omega
      obtain ⟨yy,hyy⟩:∃ yy,yy=(D[q9]'hqd).toNat:=⟨_,rfl⟩
      have hyd:48≤yy∧yy≤57:=by
       have:=HD.out.1 (D[q9]'hqd) (by
        have e:=sl_at hqd
        rw [← e,List.getD_eq_getElem?_getD,List.getElem?_eq_getElem (by rw [sl_len];exact hqd)]
        exact List.getElem_mem _)
       simp only [dig,Bool.and_eq_true,decide_eq_true_eq] at this
       omega
      have t2:((D[q9]'hqd).toNat:Int)=(yy:Int):=by rw [hyy]
      obtain ⟨z,hz⟩:∃ z,z=yy - 48:=⟨_,rfl⟩
      obtain ⟨z2,hz2⟩:∃ z2,z2=z % 2:=⟨_,rfl⟩
      have t3:IntKind.u8.wrap ((yy:Int) - 48)=(z:Int):=by rw [IntKind.wrap_u8];omega
      have t4:(z:Int).tmod 2=(z2:Int):=by rw [Int.tmod_eq_emod_of_nonneg (by omega)];omega
      have t5:IntKind.u8.wrap (z2:Int)=(z2:Int):=by rw [IntKind.wrap_u8];omega
      clear hyy hyd hz hz2
      go_wp2_with fail
      all_goals
       go_meet
       case rel=>exact ⟨⟨_,rfl⟩,rfl⟩
     obtain ⟨⟨r,rfl⟩,rfl⟩:=hcut
     cases r with
     | true=>
      go_wp2_with fail
      refine bodyPost_ret (v:=.tuple #[.string Z,.int .i64 x,.bool true]) (by simp [results,Tryz.results92,go_sem, *]) rfl ?_
      exact ⟨⟨Z,x,rfl,HZ.out.1,Nat.le_trans HZ.out.2.1 hq18,by omega,by omega⟩,HB5.out⟩
     | false=>
      go_wp2_with fail
      refine bodyPost_ret (v:=.tuple #[.string Cs,.int .i64 y,.bool true]) (by simp [results,Tryz.results92,go_sem, *]) rfl ?_
      exact ⟨⟨Cs,y,rfl,HC5.out.1,Nat.le_trans HC5.out.2 hq18,by omega,by omega⟩,HB5.out⟩
    | false=>
     go_wp2_with fail
     refine bodyPost_ret (v:=.tuple #[.string Z,.int .i64 x,.bool true]) (by simp [results,Tryz.results92,go_sem, *]) rfl ?_
     exact ⟨⟨Z,x,rfl,HZ.out.1,Nat.le_trans HZ.out.2.1 hq18,by omega,by omega⟩,HB5.out⟩
   | false=>
    cases G with
    | true=>
     go_wp2_with fail
     refine bodyPost_ret (v:=.tuple #[.string Cs,.int .i64 y,.bool true]) (by simp [results,Tryz.results92,go_sem, *]) rfl ?_
     exact ⟨⟨Cs,y,rfl,HC5.out.1,Nat.le_trans HC5.out.2 hq18,by omega,by omega⟩,HB5.out⟩
    | false=>
     go_wp2_with fail
     go_roundw
     case rel=>exact ⟨q+1,rfl,by omega,by omega,by have h9:q≠18:=fun h=>absurd (HF18.out h) (by decide);omega,HB5⟩
     case measure=>simp [intOf];omega
theorem splK_kind (b:Nat):(splK b).1=1∨(splK b).1=2∨(splK b).1=3∨(splK b).1=4:=by
 unfold splK
 repeat' split
 all_goals simp
def ShT (k:Nat) (ng:Bool) (s:ByteArray):Prop:=Asc (sl s)∧s.size≤60∧(k=2→NumF (sl s))∧(k=1→ng=false→sl s=[48])
def ShO (k:Nat) (ng:Bool) (w:World) (e:Ending) (w':World):Prop:=(∃ s,e=.returned (.string s)∧ShT k ng s)∧Below w.heap.size w w'
def Sg (ng:Bool) (s:ByteArray):Prop:=(sl s=[]∨sl s=[45])∧(ng=false→sl s=[])∧s.size≤1
theorem Sg.asc {ng:Bool} {s:ByteArray} (h:Sg ng s):Asc (sl s):=by
 rcases h.1 with e|e<;>rw [e]<;>intro c hc
 ·simp at hc
 ·obtain rfl:c=45:=by simpa using hc
  decide
theorem sl_app (a b:ByteArray):sl (a++b)=sl a++sl b:=by unfold sl;simp
theorem Dg.alld {l:List UInt8} (h:Dg l):AllD l:=AllD.of_dig h.1
theorem sl_dropE (a:ByteArray) (k:Nat):sl (a.extract k a.size)=(sl a).drop k:=by
 unfold sl
 simp only [ByteArray.data_extract,Array.toList_extract,List.extract]
 rw [List.take_of_length_le]
 simp
theorem Dg.snoc {l:List UInt8} (h:Dg l):Dg (l++[48]):=by
 obtain ⟨c,r,rfl⟩:∃ c r,l=c::r:=by cases l with|nil=>exact absurd rfl h.2.1|cons c r=>exact ⟨c,r,rfl⟩
 refine ⟨fun x hx=>?_,by simp,by simpa using h.2.2⟩
 rcases List.mem_append.1 hx with hx|hx
 ·exact h.1 x hx
 ·obtain rfl:x=48:=by simpa using hx
  rfl
theorem ShT.num {ng:Bool} {s:ByteArray} (h:NumF (sl s)) (hs:s.size≤60):ShT 2 ng s:=⟨h.asc,hs,fun _=>h,fun h=>by omega⟩
theorem numF_a {ng:Bool} {g z:ByteArray} (hg:Sg ng g) (hz:Dg (sl z)):NumF (sl (g++z)):=
 ⟨sl g,sl z,[],[],by rw [sl_app];simp,hg.1,hz.alld,hz.2.1,fun h=>absurd h hz.2.2,.inl rfl,.inl rfl⟩
theorem numF_b {ng:Bool} {g z p q d:ByteArray} {x:Nat} (hg:Sg ng g) (hz:Dg (sl z)) (h1:1≤x) (h2:x < z.size) (hp:z.extract 0 x=p) (hq:z.extract x z.size=q) (hd:sl d=[46]):NumF (sl (g++p++d++q)):=by
 refine ⟨sl g,(sl z).take x,46::(sl z).drop x,[],?_,hg.1,hz.alld.take x,?_,?_,.inr ⟨_,rfl,hz.alld.drop x,?_⟩,.inl rfl⟩
 ·rw [sl_app,sl_app,sl_app,← hp,← hq,sl_take,sl_dropE,hd];simp
 ·exact (hz.take h1).2.1
 ·intro h;exact absurd h (hz.take h1).2.2
 ·have:=sl_len z
  intro h
  have:=congrArg List.length h
  rw [List.length_drop,sl_len] at this
  simp at this;omega
theorem numF_c {ng:Bool} {g z d:ByteArray} (hg:Sg ng g) (hz:AllD (sl z)) (h0:sl z≠[]) (hd:sl d=[48,46]):NumF (sl (g++d++z)):=
 ⟨sl g,[48],46::sl z,[],by rw [sl_app,sl_app,hd];simp,hg.1,AllD.cons rfl (fun c hc=>by simp at hc),by simp,fun _=>rfl,.inr ⟨_,rfl,hz,h0⟩,.inl rfl⟩
def NumS (s:ByteArray):Prop:=∃ sg a fr,sl s=sg++(a++fr)∧(sg=[]∨sg=[45])∧AllD a∧a≠[]∧(a.headD 0=48→a.length=1)∧(fr=[]∨∃ f,fr=46::f∧AllD f∧f≠[])
theorem numS_a {ng:Bool} {g z p:ByteArray} (hg:Sg ng g) (hz:Dg (sl z)) (hp:z.extract 0 1=p):NumS (g++p):=
 ⟨sl g,(sl z).take 1,[],by rw [sl_app,← hp,sl_take];simp,hg.1,hz.alld.take 1,(hz.take (by omega)).2.1,fun h=>absurd h (hz.take (by omega)).2.2,.inl rfl⟩
theorem numS_b {ng:Bool} {g z p q d:ByteArray} (hg:Sg ng g) (hz:Dg (sl z)) (h2:1 < z.size) (hp:z.extract 0 1=p) (hq:z.extract 1 z.size=q) (hd:sl d=[46]):NumS (g++p++d++q):=by
 refine ⟨sl g,(sl z).take 1,46::(sl z).drop 1,?_,hg.1,hz.alld.take 1,(hz.take (by omega)).2.1,fun h=>absurd h (hz.take (by omega)).2.2,.inr ⟨_,rfl,hz.alld.drop 1,?_⟩⟩
 ·rw [sl_app,sl_app,sl_app,← hp,← hq,sl_take,sl_dropE,hd];simp
 ·intro h
  have:=congrArg List.length h
  rw [List.length_drop,sl_len] at this
  simp at this;omega
theorem NumS.exp {s e d:ByteArray} {c:UInt8} (h:NumS s) (he:sl e=[101,c]) (hc:c=43∨c=45) (hd:NumL (sl d)):NumF (sl (s++e++d)):=by
 obtain ⟨sg,a,fr,e1,hsg,ha,hn,h48,hf⟩:=h
 exact ⟨sg,a,fr,101::c::sl d,by rw [sl_app,sl_app,he,e1];simp,hsg,ha,hn,h48,hf,.inr ⟨c,_,rfl,hc,AllD.of_dig hd.1,hd.2.1⟩⟩
def ShA (Z:ByteArray):Prop:=Dg (sl Z)∧Z.size≤21
def ShC (x:Int) (v i:Value):Prop:=∃ (Z:ByteArray) (n:Int),v=.string Z∧i=.int .i64 n∧AllD (sl Z)∧sl Z≠[]∧x≤n∧n≤0∧(Z.size:Int)≤18+(n - x)
set_option maxRecDepth 100000 in
set_option maxHeartbeats 8000000 in
theorem short_calls (b:Nat) (hb:b < 18446744073709551616) (w:World):Calls Tryz.prog 76 #[.int .u64 (b:Nat)] w fun e w'=>ShO (splK b).1 (splK b).2.1 w e w':=by
 have CS:=Lib.hid (fun W=>rsplit_calls b hb W)
 have CD:=Lib.hid (fun h W=>fdigits_calls b hb h W)
 have hk:=splK_kind b
 generalize splK b=S at CS CD hk
 obtain ⟨k,ng,m,ee⟩:=S
 dsimp only at hk CS CD ⊢
 have CI:=Lib.hid (fun v h1 h2 W=>int_calls v h1 h2 W)
 have HB0:=Lib.hid (Below.refl w.heap.size w)
 have HSG:Hid (∃ G,G=(if ng=true then (⟨#[45]⟩:ByteArray) else ⟨#[]⟩)∧Sg ng G):=by
  refine ⟨_,rfl,?_⟩
  cases ng<;>simp [Sg,sl,ByteArray.size]
 obtain ⟨G,hG,HG⟩:=HSG
 have HG:=Lib.hid HG
 have hG1:G.size≤1:=HG.out.2.2
 go_enter Tryz.func76,Tryz.ntmps76
 go_wp2_with fail
 refine (CS.out _).mono ?_
 rintro e w1 ⟨rfl,rfl⟩
 go_upto_if 21 with fail
 go_cut [7] from 21 (fun v W=>v=.string G∧W=w)
 case first=>
  cases ng with
  | true=>
   go_wp2_with fail
   go_meet
   case rel=>exact ⟨by rw [hG];rfl,rfl⟩
  | false=>
   go_wp2_with fail
   go_meet
   case rel=>exact ⟨by rw [hG];rfl,rfl⟩
 obtain ⟨rfl,rfl⟩:=hcut
 clear hG
 have hk':k=1∨k=3∨k=4∨k=2:=by omega
 clear hk
 rcases hk' with rfl|rfl|rfl|rfl
 ·go_wp2_with fail
  go_ret
  refine ⟨⟨_,rfl,?_,?_,fun h=>by omega,fun _ h=>?_⟩,HB0.out⟩
  ·rw [sl_app];exact HG.out.asc.append (fun c hc=>by
    obtain rfl:c=48:=by simpa [sl] using hc
    decide)
  ·rw [ByteArray.size_append];show _+1≤_;omega
  ·rw [sl_app,HG.out.2.1 h];rfl
 ·go_wp2_with fail
  go_ret
  refine ⟨⟨_,rfl,?_,?_,fun h=>by omega,fun h=>by omega⟩,HB0.out⟩
  ·rw [sl_app];exact HG.out.asc.append (fun c hc=>by
    have:∀ c ∈ sl ⟨#[73,110,102,105,110,105,116,121]⟩,c.toNat < 128:=by decide
    exact this c hc)
  ·rw [ByteArray.size_append];show _+8≤_;omega
 ·go_wp2_with fail
  go_ret
  refine ⟨⟨_,rfl,?_,?_,fun h=>by omega,fun h=>by omega⟩,HB0.out⟩
  ·have:∀ c ∈ sl ⟨#[78,97,78]⟩,c.toNat < 128:=by decide
   exact this
  ·show 3≤_;omega
 have CD2:Hid (∀ W,Calls Tryz.prog 92 #[.int .u64 (b:Nat)] W fun e w'=>ExO3 e∧Below W.heap.size W w'):=fun W=>CD.out rfl W
 go_wp2_with fail
 refine (CD2.out _).mono ?_
 rintro e w1 ⟨⟨D,x,rfl,hD,hDs,hx1,hx2⟩,hb1⟩
 have HD:=Lib.hid hD
 have HB:=Lib.hid hb1
 have hd0:=hD.pos
 clear hD hb1 CD CD2 CS HB0
 by_cases hA:1≤x∧x≤21∧(D.size:Int)≤x
 ·obtain ⟨a1,a2,a3⟩:=hA
  have b1:IntKind.i64.wrap x=x:=IntWalk.i64_in _ (by omega)
  go_wp2_with fail
  go_loopw [8] (fun v wr=>∃ Z:ByteArray,v=.string Z∧Hid (ShA Z)∧wr=w1) (fun v _=>(x - (match v with|.string Z=>Z.size|_=>0)).toNat)
  case atStart=>exact ⟨D,rfl,⟨HD.out,Nat.le_trans hDs (by omega)⟩,rfl⟩
  case round=>
   obtain ⟨Z,rfl,HZ,rfl⟩:=hrel
   by_cases hlt:(Z.size:Int) < x
   ·have hlen:¬ 9223372036854775807 < Z.size+1:=by omega
    have HN:Hid (ShA (Z++⟨#[48]⟩)):=⟨by rw [sl_app];exact HZ.out.1.snoc,by rw [ByteArray.size_append];show _+1≤_;omega⟩
    have hsz:(Z++⟨#[48]⟩:ByteArray).size=Z.size+1:=by rw [ByteArray.size_append];rfl
    have HSZ:=Lib.hid hsz
    clear hsz
    go_wp2_with fail
    go_roundw
    case rel=>exact ⟨_,rfl,HN,by first|trivial|rfl⟩
    case measure=>simp only [HSZ.out];omega
   ·have hz:=HZ.out.2
    have hlen:¬ 9223372036854775807 < G.size+Z.size:=by omega
    go_wp2_with fail
    go_ret
    exact ⟨⟨_,rfl,ShT.num (numF_a HG.out HZ.out.1) (by rw [ByteArray.size_append];omega)⟩,HB.out⟩
 by_cases hB:1≤x∧x≤21
 ·obtain ⟨a1,a2⟩:=hB
  have a3:¬ (D.size:Int)≤x:=by omega
  obtain ⟨q,rfl⟩:=Int.eq_ofNat_of_zero_le (show 0≤x by omega)
  have hq1:1≤q:=by omega
  have hq2:q < D.size:=by omega
  obtain ⟨Pp,hP⟩:∃ P,D.extract 0 q=P:=⟨_,rfl⟩
  obtain ⟨Qq,hQ⟩:∃ Q,D.extract q D.size=Q:=⟨_,rfl⟩
  have hps:Pp.size≤18:=by rw [← hP];simp [ByteArray.size_extract];omega
  have hqs:Qq.size≤18:=by rw [← hQ];simp [ByteArray.size_extract];omega
  have i1:(0:Int)≤(q:Int):=by omega
  have i2:(q:Int)≤(D.size:Int):=by omega
  obtain ⟨X1,hX1⟩:∃ X,G++Pp=X:=⟨_,rfl⟩
  obtain ⟨X2,hX2⟩:∃ X,X1++(⟨#[46]⟩:ByteArray)=X:=⟨_,rfl⟩
  have hX1s:X1.size≤19:=by rw [← hX1,ByteArray.size_append];omega
  have hX2s:X2.size≤20:=by rw [← hX2,ByteArray.size_append];show _+1≤_;omega
  have l1:¬ 9223372036854775807 < G.size+Pp.size:=by omega
  have l2:¬ 9223372036854775807 < X1.size+1:=by omega
  have l3:¬ 9223372036854775807 < X2.size+Qq.size:=by omega
  have HF:Hid (ShT 2 ng (X2++Qq)):=by
   refine ShT.num ?_ ?_
   ·rw [← hX2,← hX1];exact numF_b HG.out HD.out hq1 hq2 hP hQ rfl
   ·rw [ByteArray.size_append,← hX2,← hX1,ByteArray.size_append,ByteArray.size_append,← hP,← hQ]
    simp only [ByteArray.size_extract]
    show _+_+1+_≤_
    omega
  clear hA
  go_wp2_with fail
  go_quiet (fail)
  go_wp2_with fail
  go_ret
  exact ⟨⟨_,rfl,HF.out⟩,by first|exact HB.out|exact Below_drewN HB.out⟩
 by_cases hC:-5≤x∧x≤0
 ·obtain ⟨a1,a2⟩:=hC
  have H0:Hid (ShC x (.string D) (.int .i64 x)):=⟨D,x,rfl,rfl,HD.out.alld,HD.out.2.1,by omega,by omega,by omega⟩
  clear hA hB
  have a3:¬ 1≤x:=by omega
  go_wp2_with fail
  go_loopw [8,12] (fun v i wr=>Hid (ShC x v i)∧wr=w1) (fun _ i _=>(0 - intOf i).toNat)
  case atStart=>exact ⟨H0,rfl⟩
  case round=>
   obtain ⟨⟨Z,i,rfl,rfl,hz1,hz2,hi1,hi2,hz3⟩,rfl⟩:=hrel
   have HZ1:=Lib.hid hz1
   have HZ2:=Lib.hid hz2
   clear hz1 hz2
   by_cases hlt:i < 0
   ·have hlen:¬ 9223372036854775807 < 1+Z.size:=by omega
    have b1:IntKind.i64.wrap (i+1)=i+1:=IntWalk.i64_in _ (by omega)
    have HN:Hid (ShC x (.string (⟨#[48]⟩++Z)) (.int .i64 (i+1))):=by
     refine ⟨_,i+1,rfl,rfl,?_,?_,by omega,by omega,?_⟩
     ·rw [sl_app];exact AllD.append (AllD.zeros 1) HZ1.out
     ·rw [sl_app];simp [sl]
     ·rw [ByteArray.size_append];show ((1+_:Nat):Int)≤_;omega
    go_wp2_with fail
    go_roundw
    case rel=>exact ⟨HN,by first|trivial|rfl⟩
    case measure=>simp [intOf];omega
   ·have hlen:¬ 9223372036854775807 < G.size+2:=by omega
    obtain ⟨X1,hX1⟩:∃ X,G++(⟨#[48,46]⟩:ByteArray)=X:=⟨_,rfl⟩
    have hX1s:X1.size≤3:=by rw [← hX1,ByteArray.size_append];show _+2≤_;omega
    have l2:¬ 9223372036854775807 < X1.size+Z.size:=by omega
    have HF:Hid (ShT 2 ng (X1++Z)):=by
     refine ShT.num ?_ ?_
     ·rw [← hX1];exact numF_c HG.out HZ1.out HZ2.out rfl
     ·rw [ByteArray.size_append];omega
    go_wp2_with fail
    go_ret
    exact ⟨⟨_,rfl,HF.out⟩,HB.out⟩
 obtain ⟨X1,hX1⟩:∃ X,G++D.extract 0 1=X:=⟨_,rfl⟩
 have hps:(D.extract 0 1).size≤1:=by simp [ByteArray.size_extract];omega
 have hX1s:X1.size≤2:=by rw [← hX1,ByteArray.size_append];omega
 have HX1:Hid (NumS X1):=by rw [← hX1];exact numS_a HG.out HD.out rfl
 have l1:¬ 9223372036854775807 < G.size+(D.extract 0 1).size:=by omega
 obtain ⟨Pp,hP⟩:∃ P,D.extract 0 1=P:=⟨_,rfl⟩
 rw [hP] at hX1 hps l1
 have i2:(1:Int)≤(D.size:Int):=by omega
 have hcs:(1≤x∧21 < x∧-5≤x∧0 < x)∨(x < 1∧x < -5):=by omega
 have hcut9:∀ Z:Prop,Z→Z:=fun _ h=>h
 clear hA hB hC
 rcases hcs with ⟨x1,x2,x3,x4⟩|⟨x1,x2⟩
 ·skip
  have x5:¬ x≤21:=by omega
  have x6:¬ x≤0:=by omega
  have x7:¬ x < 1:=by omega
  go_upto_if 102 with fail
  go_cut [13] from 101 to 107 (fun v W=>(∃ Y:ByteArray,v=.string Y∧Hid (NumS Y)∧Y.size≤21)∧Below w1.heap.size w1 W)
  case first=>
   by_cases h1:1 < D.size
   ·have HX2:Hid (NumS (X1++(⟨#[46]⟩:ByteArray)++D.extract 1 D.size)):=by rw [← hX1];exact numS_b HG.out HD.out h1 hP rfl rfl
    have hqs:(D.extract 1 D.size).size≤18:=by simp [ByteArray.size_extract];omega
    obtain ⟨Qq,hQ⟩:∃ Q,D.extract 1 D.size=Q:=⟨_,rfl⟩
    rw [hQ] at HX2 hqs
    obtain ⟨X2,hX2⟩:∃ X,X1++(⟨#[46]⟩:ByteArray)=X:=⟨_,rfl⟩
    have hX2s:X2.size≤3:=by rw [← hX2,ByteArray.size_append];show _+1≤_;omega
    rw [hX2] at HX2
    have l2:¬ 9223372036854775807 < X1.size+1:=by omega
    have l3:¬ 9223372036854775807 < X2.size+Qq.size:=by omega
    have HSZ:Hid ((X2++Qq).size≤21):=by show _≤_;rw [ByteArray.size_append];omega
    go_wp2_with fail
    go_meet
    case rel=>exact ⟨⟨_,rfl,HX2,HSZ.out⟩,Below.refl _ _⟩
   ·have hX1s':X1.size≤21:=by omega
    go_wp2_with fail
    go_meet
    case rel=>exact ⟨⟨_,rfl,HX1,hX1s'⟩,Below.refl _ _⟩
  obtain ⟨⟨Y,rfl,HY,hYs⟩,hbc⟩:=hcut
  have HBc:=Lib.hid hbc
  clear hbc
  have HVL:=Lib.hid (digL_num (x - 1).natAbs (by omega))
  have CI1:=Lib.hid (fun W=>CI.out (x - 1) (by omega) (by omega) W)
  have hvi:intL (x - 1)=digL 19 (x - 1).natAbs []:=by unfold intL;rw [if_neg (by omega)]
  rw [hvi] at CI1
  obtain ⟨L,hL⟩:∃ L,digL 19 (x - 1).natAbs []=L:=⟨_,rfl⟩
  rw [hL] at HVL CI1
  have b1:IntKind.i64.wrap (x - 1)=x - 1:=IntWalk.i64_in _ (by omega)
  obtain ⟨T,hT⟩:∃ T,txt L=T:=⟨_,rfl⟩
  rw [hT] at CI1
  have hTs:T.size≤20:=by rw [← hT,txt_size];exact HVL.out.2
  have HTN:Hid (NumL (sl T)):=by rw [← hT,sl_txt];exact HVL.out.1
  obtain ⟨Y2,hY2⟩:∃ X,Y++(⟨#[101,43]⟩:ByteArray)=X:=⟨_,rfl⟩
  have hY2s:Y2.size≤23:=by rw [← hY2,ByteArray.size_append];show _+2≤_;omega
  have l5:¬ 9223372036854775807 < Y.size+2:=by omega
  have l6:¬ 9223372036854775807 < Y2.size+T.size:=by omega
  have HF:Hid (ShT 2 ng (Y2++T)):=by
   refine ShT.num ?_ ?_
   ·rw [← hY2];exact HY.out.exp (c:=43) rfl (by simp) HTN.out
   ·rw [ByteArray.size_append];omega
  clear hvi hL hT HVL
  go_wp2_with fail
  refine (CI1.out _).mono ?_
  rintro e w5 ⟨rfl,hb5⟩
  have HB5:=Lib.hid (HB.out.trans (HBc.out.trans (hb5.mono HBc.out.size) |>.mono HB.out.size))
  clear hb5
  go_wp2_with fail
  go_ret
  exact ⟨⟨_,rfl,HF.out⟩,HB5.out⟩
 ·skip
  have x5:¬ 1≤x:=by omega
  have x6:¬ -5≤x:=by omega
  go_upto_if 102 with fail
  go_cut [13] from 101 to 107 (fun v W=>(∃ Y:ByteArray,v=.string Y∧Hid (NumS Y)∧Y.size≤21)∧Below w1.heap.size w1 W)
  case first=>
   by_cases h1:1 < D.size
   ·have HX2:Hid (NumS (X1++(⟨#[46]⟩:ByteArray)++D.extract 1 D.size)):=by rw [← hX1];exact numS_b HG.out HD.out h1 hP rfl rfl
    have hqs:(D.extract 1 D.size).size≤18:=by simp [ByteArray.size_extract];omega
    obtain ⟨Qq,hQ⟩:∃ Q,D.extract 1 D.size=Q:=⟨_,rfl⟩
    rw [hQ] at HX2 hqs
    obtain ⟨X2,hX2⟩:∃ X,X1++(⟨#[46]⟩:ByteArray)=X:=⟨_,rfl⟩
    have hX2s:X2.size≤3:=by rw [← hX2,ByteArray.size_append];show _+1≤_;omega
    rw [hX2] at HX2
    have l2:¬ 9223372036854775807 < X1.size+1:=by omega
    have l3:¬ 9223372036854775807 < X2.size+Qq.size:=by omega
    have HSZ:Hid ((X2++Qq).size≤21):=by show _≤_;rw [ByteArray.size_append];omega
    go_wp2_with fail
    go_meet
    case rel=>exact ⟨⟨_,rfl,HX2,HSZ.out⟩,Below.refl _ _⟩
   ·have hX1s':X1.size≤21:=by omega
    go_wp2_with fail
    go_meet
    case rel=>exact ⟨⟨_,rfl,HX1,hX1s'⟩,Below.refl _ _⟩
  obtain ⟨⟨Y,rfl,HY,hYs⟩,hbc⟩:=hcut
  have HBc:=Lib.hid hbc
  clear hbc
  have HVL:=Lib.hid (digL_num (1 - x).natAbs (by omega))
  have CI1:=Lib.hid (fun W=>CI.out (1 - x) (by omega) (by omega) W)
  have hvi:intL (1 - x)=digL 19 (1 - x).natAbs []:=by unfold intL;rw [if_neg (by omega)]
  rw [hvi] at CI1
  obtain ⟨L,hL⟩:∃ L,digL 19 (1 - x).natAbs []=L:=⟨_,rfl⟩
  rw [hL] at HVL CI1
  have b1:IntKind.i64.wrap (1 - x)=1 - x:=IntWalk.i64_in _ (by omega)
  obtain ⟨T,hT⟩:∃ T,txt L=T:=⟨_,rfl⟩
  rw [hT] at CI1
  have hTs:T.size≤20:=by rw [← hT,txt_size];exact HVL.out.2
  have HTN:Hid (NumL (sl T)):=by rw [← hT,sl_txt];exact HVL.out.1
  obtain ⟨Y2,hY2⟩:∃ X,Y++(⟨#[101,45]⟩:ByteArray)=X:=⟨_,rfl⟩
  have hY2s:Y2.size≤23:=by rw [← hY2,ByteArray.size_append];show _+2≤_;omega
  have l5:¬ 9223372036854775807 < Y.size+2:=by omega
  have l6:¬ 9223372036854775807 < Y2.size+T.size:=by omega
  have HF:Hid (ShT 2 ng (Y2++T)):=by
   refine ShT.num ?_ ?_
   ·rw [← hY2];exact HY.out.exp (c:=45) rfl (by simp) HTN.out
   ·rw [ByteArray.size_append];omega
  clear hvi hL hT HVL
  go_wp2_with fail
  refine (CI1.out _).mono ?_
  rintro e w5 ⟨rfl,hb5⟩
  have HB5:=Lib.hid (HB.out.trans (HBc.out.trans (hb5.mono HBc.out.size) |>.mono HB.out.size))
  clear hb5
  go_wp2_with fail
  go_ret
  exact ⟨⟨_,rfl,HF.out⟩,HB5.out⟩
end Go.Proofs.YtmooaepbdmengaaGreatDoor
namespace Go.Proofs.YtmooaepbdmengaaGreatDoor
set_option linter.unusedVariables false
set_option linter.unusedSimpArgs false
def sgl:List UInt8:=[65,66,67,68,69,70,71,72,73,74,75,76,77,78,79,80,81,82,83,84,85,86,87,88,89,90,97,98,99,100,101,102,103,104,105,106,107,108,109,110,111,112,113,114,115,116,117,118,119,120,121,122,48,49,50,51,52,53,54,55,56,57,43,47]
def sg (i:Nat):UInt8:=sgl.getD i 0
def b64:List UInt8→List UInt8
 | x::y::z::r=>sg (x.toNat / 4)::sg (x.toNat % 4 * 16+y.toNat / 16)::sg (y.toNat % 16 * 4+z.toNat / 64)::sg (z.toNat % 64)::b64 r
 | [x,y]=>[sg (x.toNat / 4),sg (x.toNat % 4 * 16+y.toNat / 16),sg (y.toNat % 16 * 4),61]
 | [x]=>[sg (x.toNat / 4),sg (x.toNat % 4 * 16),61,61]
 | []=>[]
theorem b64_append:∀ (k:Nat) (l r:List UInt8),l.length=3 * k→b64 (l++r)=b64 l++b64 r
 | 0,l,r,h=>by
  have:l=[]:=List.eq_nil_of_length_eq_zero (by omega)
  subst this;rfl
 | k+1,x::y::z::l,r,h=>by
  have:=b64_append k l r (by simp at h;omega)
  simp [b64,this]
 | k+1,[],r,h=>by simp at h
 | k+1,[x],r,h=>by simp at h;omega
 | k+1,[x,y],r,h=>by simp at h;omega
theorem b64_len:∀ (l:List UInt8),(b64 l).length=(l.length+2) / 3 * 4
 | x::y::z::r=>by simp only [b64,List.length_cons,b64_len r];omega
 | [x,y]=>by simp [b64]
 | [x]=>by simp [b64]
 | []=>rfl
end Go.Proofs.YtmooaepbdmengaaGreatDoor
namespace Go.Proofs.YtmooaepbdmengaaGreatDoor
open Go.RowKit
set_option linter.unusedVariables false
set_option linter.unusedSimpArgs false
def unI (c:Int):Int:=
 if 65≤c∧c≤90 then c - 65 else if 97≤c∧c≤122 then c - 71 else if 48≤c∧c≤57 then c+4 else if c=43 then 62 else if c=47 then 63 else -1
end Go.Proofs.YtmooaepbdmengaaGreatDoor
namespace Go.Proofs.YtmooaepbdmengaaGreatDoor
open Go.RowKit
set_option linter.unusedVariables false
set_option linter.unusedSimpArgs false
attribute [local go_sem ↓] Go.wp_at_zero Go.wp_at_succ
def sgB:ByteArray:=⟨#[65,66,67,68,69,70,71,72,73,74,75,76,77,78,79,80,81,82,83,84,85,86,87,88,89,90,97,98,99,100,101,102,103,104,105,106,107,108,109,110,111,112,113,114,115,116,117,118,119,120,121,122,48,49,50,51,52,53,54,55,56,57,43,47]⟩
theorem sgB_at (i:Nat) (h:i < sgB.size):sgB[i]'h=sg i:=by
 have:i < 64:=h
 show sgl.toArray[i]'_=sgl.getD i 0
 simp [List.getD_eq_getElem?_getD,List.getElem?_eq_getElem (show i < sgl.length from this)]
 rfl
def un0 (c:UInt8):Nat:=(unI (c.toNat:Nat)).toNat
end Go.Proofs.YtmooaepbdmengaaGreatDoor
namespace Go.Proofs.YtmooaepbdmengaaGreatDoor
set_option linter.unusedVariables false
set_option linter.unusedSimpArgs false
def v4 (a b c d:UInt8):Nat:=((un0 a * 64+un0 b) * 64+un0 c) * 64+un0 d
end Go.Proofs.YtmooaepbdmengaaGreatDoor
namespace Go.Proofs.YtmooaepbdmengaaGreatDoor
open Go.RowKit
set_option linter.unusedVariables false
set_option linter.unusedSimpArgs false
def vv (d:Nat→Nat) (m:Nat):Nat→Nat
 | 0=>0
 | k+1=>vv d m k * 256+(if k < m then d k else 0)
theorem vv_bd (d:Nat→Nat) (m:Nat) (hd:∀ j,d j < 256):∀ k,vv d m k < 256 ^ k
 | 0=>by simp [vv]
 | k+1=>by
  have h1:=vv_bd d m hd k
  have h2:=hd k
  simp only [vv,Nat.pow_succ]
  split<;>omega
def fourU (V m:Nat):List UInt8:=[sg (V / 262144),sg (V / 4096 % 64),if m < 2 then 61 else sg (V / 64 % 64),if m < 3 then 61 else sg (V % 64)]
theorem chunk_law (l:List UInt8) (p:Nat) (hp:p % 3=0) (hlt:p < l.length):b64 (l.take (p+3))=b64 (l.take p)++fourU (vv (fun j=>bAt l (p+j)) (min 3 (l.length - p)) 3) (min 3 (l.length - p)):=by
 rw [List.take_add,b64_append (p / 3) _ _ (by rw [List.length_take];omega)]
 congr 1
 have hb:∀ j,bAt l (p+j)=((l.drop p).getD j 0).toNat:=by
  intro j
  unfold bAt
  simp [List.getD_eq_getElem?_getD,List.getElem?_drop]
 have hlen:l.length - p=(l.drop p).length:=by rw [List.length_drop]
 simp only [hb,hlen]
 have hne:0 < (l.drop p).length:=by rw [List.length_drop];omega
 generalize l.drop p=r at *
 match r,hne with
 | [x],_=>
  have b1:=x.toNat_lt
  simp only [List.length_cons,List.length_nil,vv,List.take_succ_cons,List.take_nil,List.getD_cons_zero,b64,fourU]
  simp
  constructor
  ·congr 1;omega
  ·congr 1;omega
 | [x,y],_=>
  have b1:=x.toNat_lt;have b2:=y.toNat_lt
  simp only [List.length_cons,List.length_nil,vv,List.take_succ_cons,List.take_nil,List.getD_cons_zero,List.getD_cons_succ,b64,fourU]
  simp
  refine ⟨?_,?_,?_⟩
  ·congr 1;omega
  ·congr 1;omega
  ·congr 1;omega
 | x::y::z::s,_=>
  have b1:=x.toNat_lt;have b2:=y.toNat_lt;have b3:=z.toNat_lt
  have hm:min 3 (x::y::z::s).length=3:=by simp only [List.length_cons];omega
  rw [hm]
  simp only [vv,List.take_succ_cons,List.take_zero,List.getD_cons_zero,List.getD_cons_succ,b64,fourU]
  simp
  refine ⟨?_,?_,?_,?_⟩
  ·congr 1;omega
  ·congr 1;omega
  ·congr 1;omega
  ·congr 1;omega
def BwRel (w:World) (l:List UInt8) (o i:Value) (wr:World):Prop:=
 ∃ (u:Value) (p:Nat),u=o∧i=.int .i64 p∧p % 3=0∧p≤l.length+2∧OwnB wr w.heap.size u (b64 (l.take p))∧Below w.heap.size w wr
def Four (W:World) (g:Nat) (a b c d:Nat):Prop:=W.cell? ⟨g,0,none⟩=some (.int .u8 (a:Nat))∧W.cell? ⟨g,1,none⟩=some (.int .u8 (b:Nat))∧W.cell? ⟨g,2,none⟩=some (.int .u8 (c:Nat))∧W.cell? ⟨g,3,none⟩=some (.int .u8 (d:Nat)) ∧
 W.frozen? ⟨g,0,none⟩=false∧W.frozen? ⟨g,1,none⟩=false∧W.frozen? ⟨g,2,none⟩=false∧W.frozen? ⟨g,3,none⟩=false
def BwFour (wr:World) (s1 s2 s3 s4:Nat) (q:Value) (W:World):Prop:=∃ g,q=.slice (some ⟨g,0,none⟩) 4 4∧Four W g s1 s2 s3 s4∧Below wr.heap.size wr W∧wr.heap.size≤g∧g < W.heap.size
theorem four_src {W:World} {g V m c d:Nat} (hc:c=if m < 2 then 61 else (sg (V / 64 % 64)).toNat) (hd:d=if m < 3 then 61 else (sg (V % 64)).toNat) (h:Four W g (sg (V / 262144)).toNat (sg (V / 4096 % 64)).toNat c d):SrcB W (.slice (some ⟨g,0,none⟩) 4 4) (fourU V m):=by
 obtain ⟨h0,h1,h2,h3,_⟩:=h
 refine ⟨_,_,_,rfl,⟨rfl,by omega,fun i hi=>⟨g,0,rfl,?_⟩⟩,by simp⟩
 have e2:bAt (fourU V m) 2=c:=by
  rw [hc];unfold bAt fourU;simp only [List.getD_cons_succ,List.getD_cons_zero];split<;>rfl
 have e3:bAt (fourU V m) 3=d:=by
  rw [hd];unfold bAt fourU;simp only [List.getD_cons_succ,List.getD_cons_zero];split<;>rfl
 rcases (by omega:i=0∨i=1∨i=2∨i=3) with rfl|rfl|rfl|rfl
 ·exact h0
 ·exact h1
 ·show W.cell? ⟨g,0+2,none⟩=some (.int .u8 ((bAt (fourU V m) 2:Nat):Int))
  rw [e2];exact h2
 ·show W.cell? ⟨g,0+3,none⟩=some (.int .u8 ((bAt (fourU V m) 3:Nat):Int))
  rw [e3];exact h3
set_option maxRecDepth 100000 in
set_option maxHeartbeats 8000000 in
theorem rbase_calls (a:Option Addr) (len cap:Nat) (l:List UInt8) (w:World) (h:RdB w a len l) (hb:len≤100000) :
  Calls Tryz.prog 81 #[.slice a len cap] w fun e w'=>e=.returned (.string (txt (b64 l)))∧Below w.heap.size w w':=by
 have H:=Lib.hid h
 have hll:=h.1
 have HL:=Lib.hid hll
 clear h
 subst hll
 go_enter Tryz.func81,Tryz.ntmps81
 go_wp2_with fail
 go_loopw [3,4,5,6,7,8,9] (fun o i _ _ _ _ _ wr=>BwRel w l o i wr) (fun _ i _ _ _ _ _ _=>l.length+3 - (intOf i).toNat)
 case atStart=>exact ⟨_,0,rfl,rfl,rfl,by omega,World.ownsRow_nil _ _ _ _,Below.refl _ _⟩
 case round=>
  obtain ⟨u,p,rfl,rfl,hp3,hpl,ho,hbl⟩:=hrel
  have HO:=Lib.hid ho
  have HB:=Lib.hid hbl
  have hsz:=hbl.size
  have HR:=Lib.hid (H.out.keep hbl)
  clear ho hbl
  by_cases hlt:p < l.length
  case neg=>
   have hNX:OwnB wr w.heap.size u (b64 l):=by have:=HO.out;rwa [List.take_of_length_le (by omega)] at this
   obtain ⟨a9,c9,rfl,hr9⟩:=hNX.reads
   have hcv0:=conv_str hr9 c9
   change (convert 23 9 (.slice a9 (b64 l).length c9)).run Tryz.prog wr=.ok _ wr at hcv0
   generalize (b64 l).length=n9 at hcv0 ⊢
   clear hNX hr9 HO
   go_wp2_with fail
   go_ret
   exact ⟨rfl,HB.out⟩
  obtain ⟨m,hm⟩:∃ m,m=min 3 (l.length - p):=⟨_,rfl⟩
  obtain ⟨d,hd⟩:∃ d:Nat→Nat,d=fun j=>bAt l (p+j):=⟨_,rfl⟩
  have hd256:∀ j,d j < 256:=by
   intro j;rw [hd];unfold bAt;exact UInt8.toNat_lt _
  have hbd:=fun k=>vv_bd d m hd256 k
  have HCH:=Lib.hid (chunk_law l p hp3 hlt)
  rw [← hm,← hd] at HCH
  have hm13:1≤m∧m≤3:=by omega
  obtain ⟨hm1,hm3⟩:=hm13
  have HBD:=Lib.hid hbd
  have HD:=Lib.hid hd
  have HM:=Lib.hid hm
  clear hd hm hbd hd256
  go_wp2_with fail
  go_loop [5,6,7] (fun v n k=>∃ j:Nat,k=.int .i64 j∧j≤3∧v=.int .i64 (vv d m j:Nat)∧n=.int .i64 (min j m:Nat)) (fun _ _ k=>3 - (intOf k).toNat)
  case atStart=>exact ⟨0,rfl,by omega,rfl,by simp⟩
  case round=>
   obtain ⟨j,rfl,hj,rfl,rfl⟩:=hrel
   by_cases hj3:j < 3
   ·have hb1:vv d m j < 65536:=by
     have:=HBD.out j
     have h2:(256:Nat) ^ j≤256 ^ 2:=Nat.pow_le_pow_right (by omega) (by omega)
     omega
    have hstep:vv d m (j+1)=vv d m j * 256+(if j < m then d j else 0):=rfl
    obtain ⟨X,hX⟩:∃ X,X=vv d m j:=⟨_,rfl⟩
    rw [← hX] at hb1 hstep
    have HX:=Lib.hid hX
    obtain ⟨N,hN⟩:∃ N,N=min j m:=⟨_,rfl⟩
    have HN:=Lib.hid hN
    rw [← hX,← hN]
    have hNb:N≤3:=by omega
    have q1:IntKind.i64.wrap ((X:Int) * 256)=(X:Int) * 256:=IntWalk.i64_in _ (by omega)
    have q2:IntKind.i64.wrap ((p:Int)+(j:Int))=(p:Int)+(j:Int):=IntWalk.i64_in _ (by omega)
    by_cases hpj:p+j < l.length
    ·rw [if_pos (by have:=HM.out;omega)] at hstep
     obtain ⟨b,o,hao,hc⟩:=HR.out.at (p+j) hpj
     obtain ⟨y,hy⟩:∃ y,y=bAt l (p+j):=⟨_,rfl⟩
     rw [← hy] at hc
     have hdj:d j=y:=by rw [HD.out,hy]
     rw [hdj] at hstep
     have hy256:y < 256:=by rw [hy];unfold bAt;exact UInt8.toNat_lt _
     have HSt:=Lib.hid hstep
     have hNm:N+1=min (j+1) m:=by have:=HM.out;omega
     have HNm:=Lib.hid hNm
     subst hao
     have q3:IntKind.i64.wrap ((X:Int) * 256+(y:Int))=(X:Int) * 256+(y:Int):=IntWalk.i64_in _ (by omega)
     have e1:(p:Int)+(j:Int) < (l.length:Int):=by omega
     have hc':wr.cell? ⟨b,o+(p+j),none⟩=some (.int .u8 (y:Nat)):=hc
     have e2:((p:Int)+(j:Int)).toNat=p+j:=by omega
     clear hc hstep hX hN hy hdj hNm
     go_wp2_with fail
     go_round
     case rel=>exact ⟨j+1,by simp,by omega,by rw [HSt.out];simp,by rw [← HNm.out];simp⟩
     case measure=>simp [intOf];omega
    ·rw [if_neg (by have:=HM.out;omega)] at hstep
     have HSt:=Lib.hid hstep
     have hNm:N=min (j+1) m:=by have:=HM.out;omega
     have HNm:=Lib.hid hNm
     have e1:¬ ((p:Int)+(j:Int) < (l.length:Int)):=by omega
     clear hstep hX hN hNm
     go_wp2_with fail
     go_round
     case rel=>exact ⟨j+1,by simp,by omega,by rw [HSt.out];simp,by rw [← HNm.out]⟩
     case measure=>simp [intOf];omega
   obtain rfl:j=3:=by omega
   have hV:vv d m 3 < 16777216:=HBD.out 3
   obtain ⟨V,hVe⟩:∃ V,V=vv d m 3:=⟨_,rfl⟩
   have hmm:min 3 m=m:=by omega
   rw [hmm,← hVe]
   rw [← hVe] at HCH hV
   clear hVe hmm hj hj3
   obtain ⟨wo,rfl⟩:∃ wo:World,wo=wr:=⟨_,rfl⟩
   obtain ⟨i1,hi1⟩:∃ i,i=V / 262144:=⟨_,rfl⟩
   obtain ⟨i2,hi2⟩:∃ i,i=V / 4096 % 64:=⟨_,rfl⟩
   obtain ⟨i3,hi3⟩:∃ i,i=V / 64 % 64:=⟨_,rfl⟩
   obtain ⟨i4,hi4⟩:∃ i,i=V % 64:=⟨_,rfl⟩
   obtain ⟨e2,he2⟩:∃ i,i=V / 4096:=⟨_,rfl⟩
   obtain ⟨e3,he3⟩:∃ i,i=V / 64:=⟨_,rfl⟩
   have td:∀ (n k:Nat),((n:Int)).tdiv (k:Int)=((n / k:Nat):Int):=fun n k=>by rw [Int.tdiv_eq_ediv_of_nonneg (by omega)];rfl
   have tm:∀ (n k:Nat),((n:Int)).tmod (k:Int)=((n % k:Nat):Int):=fun n k=>by rw [Int.tmod_eq_emod_of_nonneg (by omega)];rfl
   have r1:(V:Int).tdiv 262144=(i1:Int):=by rw [hi1];exact td V 262144
   have r2:(V:Int).tdiv 4096=(e2:Int):=by rw [he2];exact td V 4096
   have r3:(V:Int).tdiv 64=(e3:Int):=by rw [he3];exact td V 64
   have r4:(V:Int).tmod 64=(i4:Int):=by rw [hi4];exact tm V 64
   have r5:(e2:Int).tmod 64=(i2:Int):=by rw [hi2,← he2];exact tm e2 64
   have r6:(e3:Int).tmod 64=(i3:Int):=by rw [hi3,← he3];exact tm e3 64
   have w1:IntKind.i64.wrap (i1:Int)=(i1:Int):=IntWalk.i64_in _ (by omega)
   have w2:IntKind.i64.wrap (i2:Int)=(i2:Int):=IntWalk.i64_in _ (by omega)
   have w3:IntKind.i64.wrap (i3:Int)=(i3:Int):=IntWalk.i64_in _ (by omega)
   have w4:IntKind.i64.wrap (i4:Int)=(i4:Int):=IntWalk.i64_in _ (by omega)
   have w5:IntKind.i64.wrap (e2:Int)=(e2:Int):=IntWalk.i64_in _ (by omega)
   have w6:IntKind.i64.wrap (e3:Int)=(e3:Int):=IntWalk.i64_in _ (by omega)
   have u1:(i1:Int) < 64:=by omega
   have u2:(i2:Int) < 64:=by omega
   have u3:(i3:Int) < 64:=by omega
   have u4:(i4:Int) < 64:=by omega
   have HI:=Lib.hid (show i1=V / 262144∧i2=V / 4096 % 64∧i3=V / 64 % 64∧i4=V % 64 from ⟨hi1,hi2,hi3,hi4⟩)
   clear hi1 hi2 hi3 hi4 he2 he3 td tm
   go_upto_region 13 with fail
   go_cut [8] from 10 to 65 (fun q W=>BwFour wo (sg i1).toNat (sg i2).toNat (sg i3).toNat (sg i4).toNat q W)
   case first=>
    go_region
    all_goals
     go_wp2_with fail
     go_meet
     case rel=>
      refine ⟨_,rfl,⟨?_,?_,?_,?_,?_,?_,?_,?_⟩,?_,?_,?_⟩
      ·simp [go_sem];exact congrArg (fun x:UInt8=>((x.toNat:Nat):Int)) (sgB_at i1 (by show i1 < 64;omega))
      ·simp [go_sem];exact congrArg (fun x:UInt8=>((x.toNat:Nat):Int)) (sgB_at i2 (by show i2 < 64;omega))
      ·simp [go_sem];exact congrArg (fun x:UInt8=>((x.toNat:Nat):Int)) (sgB_at i3 (by show i3 < 64;omega))
      ·simp [go_sem];exact congrArg (fun x:UInt8=>((x.toNat:Nat):Int)) (sgB_at i4 (by show i4 < 64;omega))
      ·simp [go_sem]
      ·simp [go_sem]
      ·simp [go_sem]
      ·simp [go_sem]
      ·exact (Below.refl _ _).drew.alloc (Nat.le_refl _) _
      ·simp
      ·simp
   case rest=>
    obtain ⟨g,rfl,hf,hbW,hg,hg2⟩:=hcut
    have HBW:=Lib.hid hbW
    have hszc:w.heap.size≤g:=by omega
    obtain ⟨s1,hs1⟩:∃ x,x=(sg i1).toNat:=⟨_,rfl⟩
    obtain ⟨s2,hs2⟩:∃ x,x=(sg i2).toNat:=⟨_,rfl⟩
    obtain ⟨s3,hs3⟩:∃ x,x=(sg i3).toNat:=⟨_,rfl⟩
    obtain ⟨s4,hs4⟩:∃ x,x=(sg i4).toNat:=⟨_,rfl⟩
    rw [← hs1,← hs2,← hs3,← hs4] at hf
    have HS:=Lib.hid (show s1=(sg i1).toNat∧s2=(sg i2).toNat∧s3=(sg i3).toNat∧s4=(sg i4).toNat from ⟨hs1,hs2,hs3,hs4⟩)
    have HF:=Lib.hid hf
    have hq:IntKind.i64.wrap ((m:Int)+1)=(m:Int)+1:=IntWalk.i64_in _ (by omega)
    have hgo:∀ k,u.ownBlock=some k→w.heap.size≤k∧k < wo.heap.size:=fun k hk=>owns_lt HO.out k hk
    have HGO:=Lib.hid hgo
    clear hs1 hs2 hs3 hs4 hf hbW u1 u2 u3 u4 r1 r2 r3 r4 r5 r6 w1 w2 w3 w4 w5 w6 hgo
    go_wp2_with fail
    go_loopw [9] (fun k wr=>∃ (j c d':Nat),k=.int .i64 j∧m+1≤j∧j≤4∧Four wr g s1 s2 c d'∧Hid (c=(if m < 2∧2 < j then 61 else s3)∧d'=(if m < 3∧3 < j then 61 else s4))∧Below g wc wr∧g < wr.heap.size) (fun k _=>4 - (intOf k).toNat)
    case atStart=>exact ⟨m+1,s3,s4,by simp,by omega,by omega,HF.out,Lib.hid ⟨by rw [if_neg (by omega)],by rw [if_neg (by omega)]⟩,Below.refl _ _,hg2⟩
    case round=>
     obtain ⟨j,c,d',rfl,hj1,hj4,hf,hcd,hbx,hgx⟩:=hrel
     have HBX:=Lib.hid hbx
     have HCD:=hcd
     clear hbx
     by_cases hj:j < 4
     ·obtain ⟨k0,k1,k2,k3,k4,k5,k6,k7⟩:=hf
      rcases (by omega:j=2∨j=3) with rfl|rfl
      ·have HN:Hid ((61:Nat)=(if m < 2∧2 < 3 then 61 else s3)∧d'=(if m < 3∧3 < 3 then 61 else s4)):=by
        show _∧_
        refine ⟨by rw [if_pos (by omega)],?_⟩
        rw [HCD.out.2,if_neg (by omega),if_neg (by omega)]
       go_wp2_with fail
       go_roundw
       case rel=>
        refine ⟨3,61,d',by simp,by omega,by omega,⟨?_,?_,?_,?_,?_,?_,?_,?_⟩,HN,?_,by simpa using hgx⟩
        all_goals first|(simp [go_sem, *];done)|exact HBX.out.setCell (by simp) _
       case measure=>simp [intOf]
      ·have HN:Hid (c=(if m < 2∧2 < 4 then 61 else s3)∧(61:Nat)=(if m < 3∧3 < 4 then 61 else s4)):=by
        show _∧_
        refine ⟨?_,by rw [if_pos (by omega)]⟩
        rw [HCD.out.1]
        by_cases h2:m < 2
        ·rw [if_pos (by omega),if_pos (by omega)]
        ·rw [if_neg (by omega),if_neg (by omega)]
       go_wp2_with fail
       go_roundw
       case rel=>
        refine ⟨4,c,61,by simp,by omega,by omega,⟨?_,?_,?_,?_,?_,?_,?_,?_⟩,HN,?_,by simpa using hgx⟩
        all_goals first|(simp [go_sem, *];done)|exact HBX.out.setCell (by simp) _
       case measure=>simp [intOf]
     obtain rfl:j=4:=by omega
     have hsrc:SrcB wr (.slice (some ⟨g,0,none⟩) 4 4) (fourU V m):=by
      obtain ⟨e1,e2,e3,e4⟩:=HS.out
      obtain ⟨f1,f2,f3,f4⟩:=HI.out
      refine four_src (c:=c) (d:=d') ?_ ?_ ?_
      ·rw [HCD.out.1,e3,f3]
       by_cases h2:m < 2
       ·rw [if_pos (by omega),if_pos h2]
       ·rw [if_neg (by omega),if_neg h2]
      ·rw [HCD.out.2,e4,f4]
       by_cases h2:m < 3
       ·rw [if_pos (by omega),if_pos h2]
       ·rw [if_neg (by omega),if_neg h2]
      ·rw [← f1,← f2,← e1,← e2];exact hf
     have HSRC:=Lib.hid hsrc
     have hbw:Below wo.heap.size wo wr:=HBW.out.trans (HBX.out.mono hg)
     have HO7:=Lib.hid (HO.out.keep hbw)
     have HB7:=Lib.hid (HB.out.trans (hbw.mono hsz))
     clear hsrc hf hbw
     go_wp2_with (at_builtin;refine wpList_appB (v:=u) (bs:=b64 (l.take p)) (sv:=.slice (some ⟨g,0,none⟩) 4 4) (l:=fourU V m) (B:=w.heap.size) (by rfl) _ _ (by rfl) (by rfl) HO7.out (by rfl) HSRC.out ?o3 ?o4 ?_)
     case o3=>
      rw [b64_len]
      have h1:(l.take p).length≤100000:=by rw [List.length_take];omega
      have h2:(fourU V m).length=4:=rfl
      omega
     case o4=>exact HB7.out.size
     intro v6 w6 ho6 ha6
     rw [← HCH.out] at ho6
     have HO6:=Lib.hid ho6
     have HB6:=Lib.hid (ha6.below HB7.out HB7.out.size (fun j hj=>(HGO.out j hj).1))
     clear ho6 ha6
     go_wp2_with fail
     go_roundw
     case rel=>exact ⟨_,p+3,rfl,by simp,by omega,by omega,HO6.out,HB6.out⟩
     case measure=>simp [intOf];omega
end Go.Proofs.YtmooaepbdmengaaGreatDoor
