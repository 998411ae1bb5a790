/- Parts of the proof of SniffWritten: Enc3, WrP. -/
import Derived.Test.YtmooaepbdmengaaGreatDoorZ08
import Derived.Test.YtmooaepbdmengaaGreatDoorZ10
import Derived.Test.YtmooaepbdmengaaGreatDoorZ17
import Derived.Test.YtmooaepbdmengaaGreatDoorZ24
import Derived.Test.YtmooaepbdmengaaGreatDoorZ05
import Derived.Test.YtmooaepbdmengaaGreatDoorZ09
import Derived.Test.YtmooaepbdmengaaGreatDoorZ11
import Derived.Test.YtmooaepbdmengaaGreatDoorZ16
namespace Go.Proofs.YtmooaepbdmengaaGreatDoor
open Go.RowKit
set_option linter.unusedVariables false
set_option linter.unusedSimpArgs false
theorem own_max {w:World} {B:Nat} {a:Option Addr} {n c:Nat} {bs:List UInt8} (h:OwnB w B (.slice a n c) bs):c≤9223372036854775807:=by
 rcases h.2 with ⟨e,h0⟩|⟨g,cp,cur,e,_,_,_,hm,_⟩
 ·simp only [Value.slice.injEq] at e
  omega
 ·simp only [Value.slice.injEq] at e
  unfold maxLen at hm
  omega
def Enc20C (t:T) (w:World) (e:Ending) (w':World):Prop:=∃ a n c aP nP cP,e=.returned (.tuple #[.slice a n c,.agg #[.int .i64 (encE t:Nat),.int .i64 0,.slice aP nP cP]])∧RdB w' a n (encB t)∧((a=none→c=0)∧n≤c∧c≤9223372036854775807)∧nP=(errP (chk t)).length∧nP≤9223372036854775807∧RdPS (fun _=>True) w' aP (errP (chk t))∧(aP=none→cP=0)∧Below w.heap.size w w'
def Enc28C (x:I) (w:World) (e:Ending) (w':World):Prop:=
 ∃ a m cp,e=.returned (.tuple #[.slice a m cp,.int .i64 (errI x:Nat)])∧RdB w' a m (if errI x=0 then layI x else [])∧(a=none→cp=0)∧m≤cp∧cp≤9223372036854775807∧Below w.heap.size w w'
def EncMC (x:I) (w:World) (e:Ending) (w':World):Prop:=
 ∃ a m cp l,e=.returned (.tuple #[.slice a m cp,.int .i64 0])∧RdB w' a m l∧LyP x l∧(a=none→cp=0)∧m≤cp∧cp≤9223372036854775807∧Below w.heap.size w w'
set_option maxRecDepth 100000 in
set_option maxHeartbeats 16000000 in
theorem renc20_calls (t:T) (w:World) (c:Array Value) (h:RdT w t c) (hw:t.wt≤90000):Calls Tryz.prog 6 #[.agg c] w (Enc20C t w):=by
 have hsz:=(sizeT_bd t).2
 have CK:=Lib.hid (fun W (h:RdT W t c)=>rcheck2_calls t W c h (by omega))
 have CZ:=Lib.hid (fun W (h:RdT W t c)=>rsize_all (t.wt) (by omega) t (Nat.le_refl _) W c h)
 have HT:=Lib.hid h
 obtain ⟨k,bits,hi,lo,text,more,sub,ab,nb,cb,ak,nk,ck,rfl⟩:=h.shape
 have hkind:t.kind=k∧RdKs w ak 0 t.kids∧t.kids.len=nk∧nk≤9223372036854775807∧t.kids.wt≤90000:=by
  obtain ⟨k',bits',hi',lo',text',more',sub',bs',kids'⟩:=t
  obtain ⟨ab',nb',cb',ak',nk',ck',he,-,-,hkl,hn,hk⟩:=h
  simp [valCells] at he
  obtain ⟨rfl,-,-,-,-,-,-,-,rfl,rfl,rfl⟩:=he
  exact ⟨rfl,hk,hkl,hn.1,by simp only [T.wt] at hw;simp only [T.kids];omega⟩
 have HKS:=Lib.hid hkind.2
 have hb1:Below w.heap.size w (w.alloc (.cells (valCells k bits hi lo text more sub ab nb cb ak nk ck) 26)):=(Below.refl _ _).alloc (Nat.le_refl _) _
 obtain ⟨wa,hwa⟩:∃ W,W=(w.alloc (.cells (valCells k bits hi lo text more sub ab nb cb ak nk ck) 26)).alloc (.cells #[.int .i64 0,.int .i64 0,.slice none 0 0] 32):=⟨_,rfl⟩
 have HBA:Hid (Below w.heap.size w wa):=by show Below _ _ _;rw [hwa];exact hb1.alloc (by simp) _
 have HXA:Hid (BoxV wa w.heap.size (valCells k bits hi lo text more sub ab nb cb ak nk ck)):=by show BoxV _ _ _;rw [hwa];exact (BoxV.new _ _ _).keep ((Below.refl _ _).alloc (Nat.le_refl _) _)
 obtain ⟨gf,hgf⟩:∃ g,g=w.heap.size+1:=⟨_,rfl⟩
 have HFA:Hid (FBox wa gf):=by
  show FBox _ _
  have:=FBox.new (w.alloc (.cells (valCells k bits hi lo text more sub ab nb cb ak nk ck) 26)) 32
  rw [hwa,hgf]
  simpa using this
 have hzs:wa.heap.size=w.heap.size+2:=by rw [hwa];simp
 have hgw:w.heap.size≤gf∧gf < wa.heap.size:=by omega
 obtain ⟨E,hE⟩:∃ E,E=errN (chk t):=⟨_,rfl⟩
 have hEE:encE t=if E=0 then (if k=3 then 0 else 5) else E:=by
  unfold encE
  rw [hE,hkind.1]
  cases hc:chk t with
  | none=>rfl
  | some q=>
   obtain ⟨q,e⟩:=q
   have:=checkT_err t ⟨#[]⟩ [] q e hc
   have h0:e≠0:=by omega
   show e=if e=0 then _ else e
   rw [if_neg h0]
 have HEE:=Lib.hid hEE
 have HE:=Lib.hid hE
 have hnil:E=0→errP (chk t)=[]:=fun h0=>by
  cases hc:chk t with
  | none=>rfl
  | some q=>
   obtain ⟨q,e⟩:=q
   have:=checkT_err t ⟨#[]⟩ [] q e hc
   rw [hE,hc] at h0
   have h1:e=0:=h0
   omega
 have HNIL:=Lib.hid hnil
 have HGF:Hid (w.heap.size+1=gf):=hgf.symm
 obtain ⟨f0,f1,f2,f3,f4,f5,f6,f7,f8,l0⟩:=HXA.out.nine
 have HSZ:Hid (sizeT t≤16777216):=by show _≤_;omega
 clear h hw hkind hb1 hEE hE hnil
 by_cases hE0:E=0
 case neg=>
  have hne:((E:Int) != 0)=true:=by simpa using hE0
  have HEN:Hid (encE t=E):=by show _=_;rw [HEE.out,if_neg hE0]
  go_enter Tryz.func6,Tryz.ntmps6
  go_upto_region 1 with fail
  rw [← hwa,← hgf]
  clear hwa hgf
  go_wp2_with fail
  refine (CK.out wa (HT.out.keep HBA.out)).mono ?_
  rintro e w1 ⟨aP,nP,cP,rfl,hnP,hmP,hrP,hcP,hb1⟩
  rw [← HE.out]
  have HB1:Hid (Below w.heap.size w w1):=HBA.out.trans (hb1.mono HBA.out.size)
  have HX1:=Lib.hid (HXA.out.keep hb1)
  have HF1:=Lib.hid (HFA.out.keep hb1)
  have HNP:=Lib.hid hnP
  have HRP:=Lib.hid hrP
  have HT1:=Lib.hid ((HT.out.keep HBA.out).keep hb1)
  clear f0 f1 f2 f3 f4 f5 f6 f7 f8 l0
  obtain ⟨f0,f1,f2,f3,f4,f5,f6,f7,f8,l0⟩:=HX1.out.nine
  obtain ⟨z0,z1,z2,q0,q1,q2,hg1⟩:=HF1.out
  clear hb1 hnP hrP
  go_wp2_with fail
  refine bodyPost_ret (v:=.tuple #[.slice none 0 0,.agg #[.int .i64 ((E:Nat)),.int .i64 0,.slice aP nP cP]]) (by simp [results,Tryz.results6,go_sem, *]) rfl ?_
  have hset:∀ W',Chg (fun q=>q=gf) w1 W'→Below w.heap.size w W':=fun W' hW=>HB1.out.trans (hW.below HB1.out.size (fun i hi=>by rw [hi];exact hgw.1))
  refine ⟨none,0,0,aP,nP,cP,by rw [HEN.out],?_,⟨fun _=>rfl,Nat.le_refl _,by omega⟩,HNP.out,hmP,HRP.out.far (g:=gf) ?_ (fun q hq=>by have h2:wa.heap.size≤q:=hq;have:=hgw.2;omega),hcP,hset _ ?_⟩
  ·unfold encB
   rw [HEN.out,if_neg hE0]
   exact .nil _ _
  all_goals (repeat' (first|with_reducible exact Chg.refl _ _|refine Chg.put ?_ _ _))
 subst hE0
 have hpn:=HNIL.out rfl
 by_cases h3:k=3
 case neg=>
  have hk3:(k != 3)=true:=by simpa using h3
  have HEN:Hid (encE t=5):=by show _=_;rw [HEE.out];simp [h3]
  go_enter Tryz.func6,Tryz.ntmps6
  go_upto_region 1 with fail
  rw [← hwa,← hgf]
  clear hwa hgf
  go_wp2_with fail
  refine (CK.out wa (HT.out.keep HBA.out)).mono ?_
  rintro e w1 ⟨aP,nP,cP,rfl,hnP,hmP,hrP,hcP,hb1⟩
  rw [← HE.out]
  have HB1:Hid (Below w.heap.size w w1):=HBA.out.trans (hb1.mono HBA.out.size)
  have HX1:=Lib.hid (HXA.out.keep hb1)
  have HF1:=Lib.hid (HFA.out.keep hb1)
  have HNP:=Lib.hid hnP
  have HRP:=Lib.hid hrP
  have HT1:=Lib.hid ((HT.out.keep HBA.out).keep hb1)
  clear f0 f1 f2 f3 f4 f5 f6 f7 f8 l0
  obtain ⟨f0,f1,f2,f3,f4,f5,f6,f7,f8,l0⟩:=HX1.out.nine
  obtain ⟨z0,z1,z2,q0,q1,q2,hg1⟩:=HF1.out
  clear hb1 hnP hrP
  go_wp2_with fail
  refine bodyPost_ret (v:=.tuple #[.slice none 0 0,.agg #[.int .i64 (((5:Nat):Int)),.int .i64 0,.slice none 0 0]]) (by simp [results,Tryz.results6,go_sem, *]) rfl ?_
  have hset:∀ W',Chg (fun q=>q=gf) w1 W'→Below w.heap.size w W':=fun W' hW=>HB1.out.trans (hW.below HB1.out.size (fun i hi=>by rw [hi];exact hgw.1))
  refine ⟨none,0,0,none,0,0,by rw [HEN.out],?_,⟨fun _=>rfl,Nat.le_refl _,by omega⟩,by rw [hpn];rfl,by omega,by rw [hpn];exact rdps_nil _ _,fun _=>rfl,hset _ ?_⟩
  ·unfold encB
   rw [HEN.out,if_neg (by omega)]
   exact .nil _ _
  all_goals (repeat' (first|with_reducible exact Chg.refl _ _|refine Chg.put ?_ _ _))
 subst h3
 have HEN:Hid (encE t=0):=by show _=_;rw [HEE.out];rfl
 go_enter Tryz.func6,Tryz.ntmps6
 go_upto_region 1 with fail
 rw [← hwa,← hgf]
 clear hwa hgf
 go_wp2_with fail
 refine (CK.out wa (HT.out.keep HBA.out)).mono ?_
 rintro e w1 ⟨aP,nP,cP,rfl,hnP,hmP,hrP,hcP,hb1⟩
 rw [← HE.out]
 have HB1:Hid (Below w.heap.size w w1):=HBA.out.trans (hb1.mono HBA.out.size)
 have HX1:=Lib.hid (HXA.out.keep hb1)
 have HF1:=Lib.hid (HFA.out.keep hb1)
 have HNP:=Lib.hid hnP
 have HRP:=Lib.hid hrP
 have HT1:=Lib.hid ((HT.out.keep HBA.out).keep hb1)
 clear f0 f1 f2 f3 f4 f5 f6 f7 f8 l0
 obtain ⟨f0,f1,f2,f3,f4,f5,f6,f7,f8,l0⟩:=HX1.out.nine
 obtain ⟨z0,z1,z2,q0,q1,q2,hg1⟩:=HF1.out
 clear hb1 hnP hrP
 go_wp2_with fail
 refine (CZ.out w1 HT1.out).mono ?_
 rintro e w2 ⟨rfl,hb2⟩
 have hsz2:decide ((16777216:Int) < sizeT t)=false:=by have:=HSZ.out;simp;omega
 have HB2:Hid (Below w.heap.size w w2):=HB1.out.trans (hb2.mono HB1.out.size)
 have HX2:=Lib.hid (HX1.out.keep hb2)
 have HF2:=Lib.hid (HF1.out.keep hb2)
 clear f0 f1 f2 f3 f4 f5 f6 f7 f8 l0
 clear z0 z1 z2 q0 q1 q2 hg1 hb2
 obtain ⟨f0,f1,f2,f3,f4,f5,f6,f7,f8,l0⟩:=HX2.out.nine
 go_wp2_with fail
 have hk4:=HKS.out
 refine (rdoc_all t.kids.wt t.kids (Nat.le_refl _) hk4.2.2.2 w2 ak nk ck (hk4.1.keep HB2.out) hk4.2.1 hk4.2.2.1).mono ?_
 rintro e w5 ⟨v5,rfl,ho5,hb5⟩
 have HB5:Hid (Below w.heap.size w w5):=HB2.out.trans (hb5.mono HB2.out.size)
 have hF5:=HF2.out.keep hb5
 have hcap:=ho5.2
 obtain ⟨a5,c5,rfl,hrd5⟩:=ho5.reads
 have HRD5:=Lib.hid hrd5
 have HO5:=Lib.hid ho5
 have HC5:=Lib.hid hcap
 have HG5:Hid (gf < w2.heap.size):=HF2.out.2.2.2.2.2.2
 obtain ⟨z0,z1,z2,q0,q1,q2,hg1⟩:=hF5
 clear f0 f1 f2 f3 f4 f5 f6 f7 f8 l0
 clear hb5 ho5 hcap hrd5
 go_wp2_with fail
 refine bodyPost_ret (v:=.tuple #[.slice a5 (docOf (kidsB t.kids)).length c5,.agg #[.int .i64 (((0:Nat):Int)),.int .i64 0,.slice none 0 0]]) (by simp [results,Tryz.results6,go_sem, *]) rfl ?_
 have hset:∀ W',Chg (fun q=>q=gf) w5 W'→Below w.heap.size w W':=fun W' hW=>HB5.out.trans (hW.below HB5.out.size (fun i hi=>by rw [hi];exact hgw.1))
 refine ⟨a5,_,c5,none,0,0,by rw [HEN.out],?_,?_,by rw [hpn];rfl,by omega,by rw [hpn];exact rdps_nil _ _,fun _=>rfl,hset _ ?_⟩
 ·unfold encB
  rw [HEN.out,if_pos rfl]
  refine HRD5.out.chg (S:=fun q=>q=gf) ?_ ?_
  ·repeat' (first|with_reducible exact Chg.refl _ _|refine Chg.put ?_ _ _)
  ·rintro p hp h0
   have:=(owns_lt HO5.out p.block (by rw [hp];rfl)).1
   have h1:p.block=gf:=h0
   have:=HG5.out
   omega
 ·refine ⟨?_,?_,own_max HO5.out⟩
  ·rintro rfl
   rcases HC5.out with ⟨e,_⟩|⟨g,cp,cur,e,_⟩
   ·simp only [Value.slice.injEq] at e;exact e.2.2
   ·simp at e
  ·rcases HC5.out with ⟨e,h0⟩|⟨g,cp,cur,e,_,_,hn,_⟩
   ·omega
   ·simp only [Value.slice.injEq] at e
    omega
 all_goals (repeat' (first|with_reducible exact Chg.refl _ _|refine Chg.put ?_ _ _))
set_option maxRecDepth 100000 in
set_option maxHeartbeats 4000000 in
theorem renc28_calls (x:I) (hx:x.wt≤100000) (w:World) (c:Array Value) (h:RdIt (fun _=>True) w x c):Calls Tryz.prog 9 #[.agg c] w (Enc28C x w):=by
 have CK:=Lib.hid (fun W (h:RdIt (fun _=>True) W x c)=>rchk_allZ 100000 (by omega) x hx W c h)
 have H0:=Lib.hid h
 obtain ⟨k,n,ab,nb,cb,text,ak,nk,ck,rfl⟩:=h.shape
 obtain ⟨wa,hwa⟩:∃ W,W=w.alloc (.cells #[.int .i64 k,.int .u64 (n:Nat),.slice ab nb cb,.string text,.slice ak nk ck] 39):=⟨_,rfl⟩
 obtain ⟨gb,hgb⟩:∃ q,q=w.heap.size:=⟨_,rfl⟩
 have hba:Below w.heap.size w wa:=by rw [hwa];exact (Below.refl _ _).alloc (Nat.le_refl _) _
 have hxa:ItBx wa gb k n ab nb cb text ak nk ck:=by rw [hwa,hgb];exact ItBx.new _ _ _ _ _ _ _ _ _ _ _
 have HXa:=Lib.hid hxa
 have HBA:=Lib.hid hba
 have HRA:=Lib.hid (h.below hba)
 obtain ⟨f0,f1,f2,f3,f4,l0⟩:=hxa
 clear h hba
 go_enter Tryz.func9,Tryz.ntmps9
 go_upto_region 1 with fail
 rw [← hwa,← hgb]
 clear hwa hgb
 go_wp2_with fail
 refine (CK.out _ HRA.out).mono ?_
 rintro e w1 ⟨rfl,hb1⟩
 have HB1:=Lib.hid hb1
 have HX1:=Lib.hid (HXa.out.keep hb1)
 clear hb1
 clear f0 f1 f2 f3 f4 l0
 obtain ⟨f0,f1,f2,f3,f4,l0⟩:=HX1.out
 by_cases he:errI x=0
 case neg=>
  have hne:((errI x:Int) != 0)=true:=by simpa using he
  have HE:=Lib.hid he
  obtain ⟨E,hE⟩:∃ q,q=errI x:=⟨_,rfl⟩
  rw [← hE] at hne ⊢
  have HEE:=Lib.hid hE
  clear he hE
  go_wp2_with fail
  refine bodyPost_ret (v:=.tuple #[.slice none 0 0,.int .i64 (E:Nat)]) (by simp [results,Tryz.results9,go_sem, *]) rfl ?_
  exact ⟨none,0,0,by rw [HEE.out],by rw [if_neg HE.out];exact RdB.nil _ _,fun _=>rfl,Nat.le_refl _,by omega,HBA.out.trans (HB1.out.mono HBA.out.size)⟩
 rw [he]
 have HE:=Lib.hid he
 have CL:=Lib.hid (fun W (h:RdIt (fun _=>True) W x #[.int .i64 k,.int .u64 (n:Nat),.slice ab nb cb,.string text,.slice ak nk ck])=>rlay_all 100000 (by omega) x hx he W _ h)
 clear he
 go_wp2_with fail
 refine (CL.out _ (HRA.out.below HB1.out)).mono ?_
 rintro e w2 ⟨v2,rfl,hs2⟩
 obtain ⟨a4,c4,rfl,hr4⟩:=hs2.1.reads
 have HR4:=Lib.hid hr4
 have HRM:=Lib.hid (own_roomy4 hs2.1)
 have HMX:=Lib.hid (own_max hs2.1)
 have HB4:Hid (Below w.heap.size w w2):=HBA.out.trans ((HB1.out.trans (hs2.2.mono HB1.out.size)).mono HBA.out.size)
 clear hs2 hr4 f0 f1 f2 f3 f4 l0
 go_wp2_with fail
 refine bodyPost_ret (v:=.tuple #[.slice a4 (layI x).length c4,.int .i64 0]) (by simp [results,Tryz.results9,go_sem, *]) rfl ?_
 exact ⟨a4,(layI x).length,c4,by rw [HE.out];rfl,by rw [if_pos HE.out];exact HR4.out,HRM.out.1,HRM.out.2,HMX.out,HB4.out⟩
set_option maxRecDepth 100000 in
set_option maxHeartbeats 4000000 in
theorem renc29_calls (x:I) (hx:szM x≤1000000) (hok:OkM x) (w:World) (c:Array Value) (h:RdIt (fun _=>True) w x c):Calls Tryz.prog 11 #[.agg c] w (EncMC x w):=by
 have H0:=Lib.hid h
 obtain ⟨k,n,ab,nb,cb,text,ak,nk,ck,rfl⟩:=h.shape
 have CK:=Lib.hid (fun W (h:RdIt (fun _=>True) W x _)=>chk29_all 1000000 (by omega) x hx hok W (itCells k n ab nb cb text ak nk ck) h)
 have CL:=Lib.hid (fun W (h:RdIt (fun _=>True) W x _)=>lay29_all 1000000 (by omega) x hx hok W (itCells k n ab nb cb text ak nk ck) h)
 obtain ⟨wa,hwa⟩:∃ W,W=w.alloc (.cells #[.int .i64 k,.int .u64 (n:Nat),.slice ab nb cb,.string text,.slice ak nk ck] 39):=⟨_,rfl⟩
 obtain ⟨gb,hgb⟩:∃ q,q=w.heap.size:=⟨_,rfl⟩
 have hba:Below w.heap.size w wa:=by rw [hwa];exact (Below.refl _ _).alloc (Nat.le_refl _) _
 have hxa:ItBx wa gb k n ab nb cb text ak nk ck:=by rw [hwa,hgb];exact ItBx.new _ _ _ _ _ _ _ _ _ _ _
 have HXa:=Lib.hid hxa
 have HBA:=Lib.hid hba
 have HRA:=Lib.hid (h.below hba)
 obtain ⟨f0,f1,f2,f3,f4,l0⟩:=hxa
 clear h hba hx hok
 go_enter Tryz.func11,Tryz.ntmps11
 go_upto_region 1 with fail
 rw [← hwa,← hgb]
 clear hwa hgb
 go_wp2_with fail
 refine (CK.out _ HRA.out).mono ?_
 rintro e w1 ⟨rfl,hb1⟩
 have HB1:=Lib.hid hb1
 have HX1:=Lib.hid (HXa.out.keep hb1)
 have HR1:=Lib.hid (HRA.out.below hb1)
 clear hb1 f0 f1 f2 f3 f4 l0
 obtain ⟨f0,f1,f2,f3,f4,l0⟩:=HX1.out
 go_wp2_with fail
 refine (CL.out _ HR1.out).mono ?_
 rintro e w2 ⟨l,hl,v2,rfl,hs2⟩
 obtain ⟨a4,c4,rfl,hr4⟩:=hs2.1.reads
 have HR4:=Lib.hid hr4
 have HRM:=Lib.hid (own_roomy4 hs2.1)
 have HMX:=Lib.hid (own_max hs2.1)
 have HB4:Hid (Below w.heap.size w w2):=HBA.out.trans ((HB1.out.trans (hs2.2.mono HB1.out.size)).mono HBA.out.size)
 have HL:=Lib.hid hl
 clear hs2 hr4 hl f0 f1 f2 f3 f4 l0
 go_wp2_with fail
 go_ret2
 exact ⟨a4,_,c4,l,rfl,HR4.out,HL.out,HRM.out.1,HRM.out.2,HMX.out,HB4.out⟩
theorem bAt_c0 (c:UInt8) (r:List UInt8):bAt (c::r) 0=c.toNat:=rfl
theorem ltZ (c:UInt8):c.toNat < 256:=c.toNat_lt
theorem docOf_headZ (l:List UInt8):seg (docOf l) 0 4=leBytes 4 (l.length+5):=by
 unfold seg docOf
 rw [List.append_assoc,List.drop_zero,List.take_append_of_le_length (by rw [leBytes_length];exact Nat.le_refl _),List.take_of_length_le (by rw [leBytes_length];exact Nat.le_refl _)]
theorem bAt_last (l:List UInt8) (c:UInt8):bAt (l++[c]) l.length=c.toNat:=by simp [bAt]
theorem guess_bson (l:List UInt8) (h:l.length+5 < 4294967296):guessN (docOf l)=1:=by
 unfold guessN
 rw [if_pos]
 refine ⟨by rw [docOf_len];omega,?_,?_⟩
 ·have e:(docOf l).length - 1=(leBytes 4 (l.length+5)++l).length:=by rw [docOf_len,List.length_append,leBytes_length];omega
  rw [e]
  exact bAt_last _ 0
 ·rw [docOf_headZ,le_leBytes,docOf_len]
  exact Nat.mod_eq_of_lt (by simpa using h)
theorem guess_canon (l:List UInt8):guessN (123::(l++[125]))=2:=by
 unfold guessN
 rw [if_neg,if_pos]
 ·have e:lead (123::(l++[125]))=0:=by simp [lead,blankZ]
  unfold brace
  rw [e]
  simp [bAt]
 ·rintro ⟨-,h,-⟩
  have e:(123::(l++[125])).length - 1=(123::l:List UInt8).length:=by simp
  rw [e] at h
  have h2:=bAt_last (123::l) 125
  rw [show (123::l:List UInt8)++[125]=123::(l++[125]) from rfl,h] at h2
  simp at h2
theorem brace_no {c:UInt8} {r:List UInt8} (h:128≤c.toNat):brace (c::r)=false:=by
 have hb:blankZ c=false:=by
  cases e:blankZ c with
  | false=>rfl
  | true=>have:=(blank_iff c).1 e;omega
 have e:lead (c::r)=0:=by simp [lead,hb]
 unfold brace
 rw [e,bAt_c0]
 have h1:(c.toNat == 123)=false:=by simp;omega
 rw [h1,Bool.and_false]
theorem guess_four {c:UInt8} {r:List UInt8} (h1:160≤c.toNat∧c.toNat≤187) (hn:¬ (5≤(c::r).length∧bAt (c::r) ((c::r).length - 1)=0∧le (seg (c::r) 0 4)=(c::r).length)):guessN (c::r)=4:=by
 rw [guess_rest hn (brace_no (by omega)) (by simp),bAt_c0,if_pos h1]
theorem guess_five {c:UInt8} {r:List UInt8} (h1:(128≤c.toNat∧c.toNat≤143)∨c.toNat=222∨c.toNat=223) (hn:¬ (5≤(c::r).length∧bAt (c::r) ((c::r).length - 1)=0∧le (seg (c::r) 0 4)=(c::r).length)):guessN (c::r)=5:=by
 rw [guess_rest hn (brace_no (by omega)) (by simp),bAt_c0,if_neg (by omega),if_pos h1]
theorem le_four {a b c d:UInt8} {r:List UInt8}:le (seg (a::b::c::d::r) 0 4)=a.toNat+256 * (b.toNat+256 * (c.toNat+256 * d.toNat)):=by
 rw [le_seg4 _ 0 (by simp)]
 rfl
theorem four_of {l:List UInt8} (h:4≤l.length):∃ a b c d r,l=a::b::c::d::r:=by
 match l,h with
 | a::b::c::d::r,_=>exact ⟨a,b,c,d,r,rfl⟩
theorem len_zt:∀ f:IL,f.len≤f.zt
 | .nil=>Nat.le_refl _
 | .cons x r=>by
  have:=len_zt r
  have h:1≤x.zt:=by cases x;simp only [I.zt];split<;>omega
  simp only [IL.len,IL.zt]
  omega
theorem headB5 (m n:Nat) (h:n < 4294967296):(headB m n).length≤5:=by
 rw [headB_len]
 have:needN n≤4:=by unfold needN;(repeat' split)<;>omega
 omega
mutual
theorem zt_len:∀ x:I,x.zt≤1000000→(layI x).length≤x.zt
 | .mk k n bs t f,h=>by
  have hf:f.zt≤1000000:=by simp only [I.zt] at h;omega
  have h1:=zts_len f hf
  have h2:=len_zt f
  have h4:=sl_len t
  have e9:∀ m n,(headB m n).length≤9:=fun m n=>by rw [headB_len];have:=needN_le n;omega
  have hb:bs.length≤1000000:=by simp only [I.zt] at h;omega
  have ht:t.size≤1000000:=by simp only [I.zt] at h;omega
  have g0:=e9 0 n
  have g1:=e9 1 n
  have g2:=headB5 2 bs.length (by omega)
  have g3:=headB5 3 t.size (by omega)
  have g4:=headB5 4 f.len (by omega)
  have g5:=headB5 5 (f.len / 2) (by omega)
  have g6:=e9 6 n
  have g7:=e9 7 n
  simp only [layI,I.zt,List.length_append]
  (repeat' split)<;>(try simp only [List.length_append,List.length_reverse,leBytes_length,List.length_cons,List.length_nil])<;>omega
theorem zts_len:∀ f:IL,f.zt≤1000000→(layIs f).length≤f.zt
 | .nil,_=>by simp [layIs]
 | .cons x r,h=>by
  have hx:x.zt≤1000000:=by simp only [IL.zt] at h;omega
  have hr:r.zt≤1000000:=by simp only [IL.zt] at h;omega
  have h1:=zt_len x hx
  have h2:=zts_len r hr
  simp only [layIs,IL.zt,List.length_append]
  omega
end
mutual
theorem wt_zt:∀ x:I,x.wt≤x.zt
 | .mk k n bs t f=>by
  have h1:=wts_zt f
  simp only [I.wt,I.zt]
  split<;>omega
theorem wts_zt:∀ f:IL,f.wt≤f.zt
 | .nil=>Nat.le_refl _
 | .cons x r=>by
  have h1:=wt_zt x
  have h2:=wts_zt r
  simp only [IL.wt,IL.zt]
  omega
end
theorem ofNatZ (n:Nat) (h:n < 256):(UInt8.ofNat n).toNat=n:=by simp;omega
theorem lay_map (g:IL):layI (.mk 6 0 [] emB g)=headB 5 (g.len / 2)++layIs g:=by simp [layI]
theorem lay_text (n:Nat) (bs:List UInt8) (t:ByteArray) (f:IL):∃ d r,layI (.mk 4 n bs t f)=d::r∧96≤d.toNat:=by
 refine ⟨UInt8.ofNat (32 * 3+codeN t.size),(leBytes (needN t.size) t.size).reverse++(sl t++layIs f),by simp [layI,headB],?_⟩
 have:=codeN_le t.size
 rw [ofNatZ _ (by omega)]
 omega
theorem two_rev (n:Nat):∃ a b,(leBytes 2 n).reverse=[a,b]:=⟨_,_,rfl⟩
theorem one_rev (n:Nat):∃ a,(leBytes 1 n).reverse=[a]:=⟨_,rfl⟩
theorem guess_cbor (g:IL) (hd:hdT g) (hz:g.zt≤21600):guessN (layI (.mk 6 0 [] emB g))=4:=by
 have hl:=len_zt g
 have hL:=zts_len g (by omega)
 have hH:=headB5 5 (g.len / 2) (by omega)
 have hc:=codeN_le (g.len / 2)
 have hN:needN (g.len / 2)=0∨needN (g.len / 2)=1∨needN (g.len / 2)=2:=by unfold needN;(repeat' split)<;>omega
 rw [lay_map]
 have hb:(headB 5 (g.len / 2)++layIs g).length≤21605:=by rw [List.length_append];omega
 unfold headB at hb ⊢
 rw [List.cons_append] at hb ⊢
 have e1:=ofNatZ (32 * 5+codeN (g.len / 2)) (by omega)
 refine guess_four (by rw [e1];omega) ?_
 rintro ⟨h5,-,hle⟩
 generalize UInt8.ofNat (32 * 5+codeN (g.len / 2))=c at *
 cases g with
 | nil=>
  rw [show needN (IL.len .nil / 2)=0 from rfl] at h5
  simp [leBytes,layIs] at h5
 | cons x r=>
  cases x with
  | mk k n bs t f=>
   have hk:k=4:=hd
   subst hk
   obtain ⟨d,q,e,hd96⟩:=lay_text n bs t f
   simp only [layIs] at h5 hle hb
   rw [e] at h5 hle hb
   have bc:=ltZ c
   rcases hN with h|h|h<;>rw [h] at h5 hle hb
   ·simp only [leBytes,List.reverse_nil,List.nil_append,List.cons_append] at h5 hle hb
    obtain ⟨a1,a2,a3,a4,s,es⟩:=four_of (l:=c::d::(q++layIs r)) (by omega)
    rw [es,le_four] at hle
    simp only [List.cons.injEq] at es
    obtain ⟨rfl,rfl,e3⟩:=es
    have:(c::d::a3::a4::s).length≤21605:=by rw [← e3];exact hb
    omega
   ·obtain ⟨a,ea⟩:=one_rev ((IL.len (.cons (.mk 4 n bs t f) r)) / 2)
    rw [ea] at h5 hle hb
    simp only [List.nil_append,List.cons_append] at h5 hle hb
    obtain ⟨a1,a2,a3,a4,s,es⟩:=four_of (l:=c::a::d::(q++layIs r)) (by omega)
    rw [es,le_four] at hle
    simp only [List.cons.injEq] at es
    obtain ⟨rfl,rfl,rfl,e3⟩:=es
    have:(c::a::d::a4::s).length≤21605:=by rw [← e3];exact hb
    omega
   ·obtain ⟨a,b,ea⟩:=two_rev ((IL.len (.cons (.mk 4 n bs t f) r)) / 2)
    rw [ea] at h5 hle hb
    simp only [List.nil_append,List.cons_append] at h5 hle hb
    rw [le_four] at hle
    omega
theorem guess_mpack (g:IL) (l:List UInt8) (hl:LyP (.mk 6 0 [] emB g) l) (hd:hdT g) (hz:szMs g≤24000):guessN l=5:=by
 obtain ⟨hlen,-,h6⟩:=hl
 rw [sz_map] at hlen
 obtain ⟨h,r,rfl,hm,h0,ht⟩:=h6 rfl
 have hr:r=[]∨∃ d q,r=d::q∧160≤d.toNat:=by
  by_cases e:g.len=0
  ·exact .inl (h0 e)
  ·exact .inr (ht hd (by omega))
 rcases hm with ⟨c,rfl,hc1,hc2⟩|⟨a,b,rfl⟩|⟨a,b,c,d,rfl,hb1⟩
 ·refine guess_five (c:=c) (r:=r) (.inl ⟨hc1,hc2⟩) ?_
  rintro ⟨h5,-,hle⟩
  rcases hr with rfl|⟨d,q,rfl,h160⟩
  ·simp at h5
  ·obtain ⟨a1,a2,a3,a4,s,es⟩:=four_of (l:=c::d::q) (by omega)
   rw [es,le_four] at hle
   have hlen2:(c::d::q).length≤9+szMs g:=hlen
   rw [es] at hlen2
   simp only [List.cons.injEq] at es
   obtain ⟨rfl,rfl,-⟩:=es
   omega
 ·refine guess_five (c:=222) (r:=a::b::r) (.inr (.inl rfl)) ?_
  rintro ⟨h5,-,hle⟩
  have hlen2:(222::a::b::r:List UInt8).length≤9+szMs g:=hlen
  rcases hr with rfl|⟨d,q,rfl,h160⟩
  ·simp at h5
  ·rw [le_four] at hle
   omega
 ·refine guess_five (c:=223) (r:=a::b::c::d::r) (.inr (.inr rfl)) ?_
  rintro ⟨h5,-,hle⟩
  have hlen2:(223::a::b::c::d::r:List UInt8).length≤9+szMs g:=hlen
  rw [le_four] at hle
  omega
end Go.Proofs.YtmooaepbdmengaaGreatDoor
