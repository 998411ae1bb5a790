/- Parts of the proof of SniffWritten: CbS. -/
import Derived.Test.YtmooaepbdmengaaGreatDoorZ09
import Derived.Deep.RegionHeld3
namespace Go.Proofs.YtmooaepbdmengaaGreatDoor
open Go.RowKit
set_option linter.unusedVariables false
set_option linter.unusedSimpArgs false
theorem St.up {w wa W:World} {v:Value} {bs:List UInt8} (h:St wa v bs W) (hb:Below w.heap.size w wa):St w v bs W:=⟨h.1.weaken hb.size,hb.trans (h.2.mono hb.size)⟩
theorem IL.len_zero:∀ f:IL,f.len=0→f=.nil
 | .nil,_=>rfl
 | .cons x r,h=>by simp [IL.len] at h
def RLaySaid (d:Nat):Prop:=∀ x:I,x.wt≤d→errI x=0→∀ (w:World) (c:Array Value),RdIt (fun _=>True) w x c→Calls Tryz.prog 22 #[.agg c] w (HeadO w (layI x))
def RRel (wa:World) (kids:IL) (tot:List UInt8) (M:Nat) (q i:Value) (wr:World):Prop:=
 ∃ (j:Nat) (v:Value) (cur:List UInt8),i=.int .i64 j∧v=q∧j≤kids.len∧Hid (tot=cur++layIs (kids.drop j))∧Hid (St wa v cur wr)∧cur.length+9 * (kids.drop j).wt≤M
set_option maxRecDepth 100000 in
set_option maxHeartbeats 8000000 in
theorem rlay_1 (d:Nat) (hof:RLaySaid d) (n:Nat) (ys:List UInt8) (text:ByteArray) (kids:IL) (hd:I.wt (.mk 1 n ys text kids)≤d+1) (hfl:fieldsB 1 n ys.length text.size kids.len=true) (her:errIs kids=0) (hd9:d≤1000000) (w:World) (c:Array Value)
  (hr:RdIt (fun _=>True) w (.mk 1 n ys text kids) c):Calls Tryz.prog 22 #[.agg c] w (HeadO w (layI (.mk 1 n ys text kids))):=by
 simp only [I.wt] at hd
 obtain ⟨ab,nb,cb,ak,nk,ck,rfl,hok,hbs,hkl,hrm,hks⟩:=hr
 obtain ⟨wa,hwa⟩:∃ W,W=w.alloc (.cells #[.int .i64 1,.int .u64 (n:Nat),.slice ab nb cb,.string text,.slice ak nk ck] 39):=⟨_,rfl⟩
 obtain ⟨gb,hgb⟩:∃ q,q=w.heap.size:=⟨_,rfl⟩
 have hba:Below w.heap.size w wa:=by rw [hwa];exact (Below.refl _ _).alloc (Nat.le_refl _) _
 have hxa:ItBx wa gb 1 n ab nb cb text ak nk ck:=by rw [hwa,hgb];exact ItBx.new _ _ _ _ _ _ _ _ _ _ _
 have HXa:=Lib.hid hxa
 have HBA:=Lib.hid hba
 have HKS:Hid (RdIs (fun _=>True) wa ak 0 kids):=hks.below hba
 have HYS:Hid (RdB wa ab nb ys):=hbs.1.keep hba
 have HRB:=Lib.hid hrm.2.2
 have HKL:=Lib.hid hkl
 have hyl:ys.length=nb:=hbs.1.1
 have hnk:=hrm.1
 have hkw:=IL.len_wt kids
 have hn:=hok.2.1
 have hsl:=sl_len text
 have hk0:kids=.nil:=IL.len_zero _ (by simp [fieldsB] at hfl;simp_all)
 have HLY:Hid (layI (.mk 1 n ys text kids)=headB 0 n):=by show _=_;rw [hk0];simp [layI,layIs,hyl]
 clear hk0 hfl her
 have CH:=Lib.hid (fun W=>rhead_calls 0 0 rfl (by omega) n hn W)
 obtain ⟨f0,f1,f2,f3,f4,l0⟩:=hxa
 clear hba hok hbs hks hrm hyl hkl hkw hsl
 go_enter Tryz.func22,Tryz.ntmps22
 go_upto_region 1 with fail
 rw [← hwa,← hgb]
 clear hwa hgb
 go_wp2_with fail
 refine (CH.out _).mono ?_
 rintro e w1 ⟨v1,rfl,hs1⟩
 have HS1:=Lib.hid (hs1.up HBA.out)
 clear hs1 CH
 go_wp2_with fail
 go_ret
 rw [HLY.out]
 exact ⟨_,rfl,HS1.out⟩
set_option maxRecDepth 100000 in
set_option maxHeartbeats 8000000 in
theorem rlay_2 (d:Nat) (hof:RLaySaid d) (n:Nat) (ys:List UInt8) (text:ByteArray) (kids:IL) (hd:I.wt (.mk 2 n ys text kids)≤d+1) (hfl:fieldsB 2 n ys.length text.size kids.len=true) (her:errIs kids=0) (hd9:d≤1000000) (w:World) (c:Array Value)
  (hr:RdIt (fun _=>True) w (.mk 2 n ys text kids) c):Calls Tryz.prog 22 #[.agg c] w (HeadO w (layI (.mk 2 n ys text kids))):=by
 simp only [I.wt] at hd
 obtain ⟨ab,nb,cb,ak,nk,ck,rfl,hok,hbs,hkl,hrm,hks⟩:=hr
 obtain ⟨wa,hwa⟩:∃ W,W=w.alloc (.cells #[.int .i64 2,.int .u64 (n:Nat),.slice ab nb cb,.string text,.slice ak nk ck] 39):=⟨_,rfl⟩
 obtain ⟨gb,hgb⟩:∃ q,q=w.heap.size:=⟨_,rfl⟩
 have hba:Below w.heap.size w wa:=by rw [hwa];exact (Below.refl _ _).alloc (Nat.le_refl _) _
 have hxa:ItBx wa gb 2 n ab nb cb text ak nk ck:=by rw [hwa,hgb];exact ItBx.new _ _ _ _ _ _ _ _ _ _ _
 have HXa:=Lib.hid hxa
 have HBA:=Lib.hid hba
 have HKS:Hid (RdIs (fun _=>True) wa ak 0 kids):=hks.below hba
 have HYS:Hid (RdB wa ab nb ys):=hbs.1.keep hba
 have HRB:=Lib.hid hrm.2.2
 have HKL:=Lib.hid hkl
 have hyl:ys.length=nb:=hbs.1.1
 have hnk:=hrm.1
 have hkw:=IL.len_wt kids
 have hn:=hok.2.1
 have hsl:=sl_len text
 have hk0:kids=.nil:=IL.len_zero _ (by simp [fieldsB] at hfl;simp_all)
 have HLY:Hid (layI (.mk 2 n ys text kids)=headB 1 n):=by show _=_;rw [hk0];simp [layI,layIs,hyl]
 clear hk0 hfl her
 have CH:=Lib.hid (fun W=>rhead_calls 1 1 rfl (by omega) n hn W)
 obtain ⟨f0,f1,f2,f3,f4,l0⟩:=hxa
 clear hba hok hbs hks hrm hyl hkl hkw hsl
 go_enter Tryz.func22,Tryz.ntmps22
 go_upto_region 1 with fail
 rw [← hwa,← hgb]
 clear hwa hgb
 go_wp2_with fail
 refine (CH.out _).mono ?_
 rintro e w1 ⟨v1,rfl,hs1⟩
 have HS1:=Lib.hid (hs1.up HBA.out)
 clear hs1 CH
 go_wp2_with fail
 go_ret
 rw [HLY.out]
 exact ⟨_,rfl,HS1.out⟩
set_option maxRecDepth 100000 in
set_option maxHeartbeats 8000000 in
theorem rlay_3 (d:Nat) (hof:RLaySaid d) (n:Nat) (ys:List UInt8) (text:ByteArray) (kids:IL) (hd:I.wt (.mk 3 n ys text kids)≤d+1) (hfl:fieldsB 3 n ys.length text.size kids.len=true) (her:errIs kids=0) (hd9:d≤1000000) (w:World) (c:Array Value)
  (hr:RdIt (fun _=>True) w (.mk 3 n ys text kids) c):Calls Tryz.prog 22 #[.agg c] w (HeadO w (layI (.mk 3 n ys text kids))):=by
 simp only [I.wt] at hd
 obtain ⟨ab,nb,cb,ak,nk,ck,rfl,hok,hbs,hkl,hrm,hks⟩:=hr
 obtain ⟨wa,hwa⟩:∃ W,W=w.alloc (.cells #[.int .i64 3,.int .u64 (n:Nat),.slice ab nb cb,.string text,.slice ak nk ck] 39):=⟨_,rfl⟩
 obtain ⟨gb,hgb⟩:∃ q,q=w.heap.size:=⟨_,rfl⟩
 have hba:Below w.heap.size w wa:=by rw [hwa];exact (Below.refl _ _).alloc (Nat.le_refl _) _
 have hxa:ItBx wa gb 3 n ab nb cb text ak nk ck:=by rw [hwa,hgb];exact ItBx.new _ _ _ _ _ _ _ _ _ _ _
 have HXa:=Lib.hid hxa
 have HBA:=Lib.hid hba
 have HKS:Hid (RdIs (fun _=>True) wa ak 0 kids):=hks.below hba
 have HYS:Hid (RdB wa ab nb ys):=hbs.1.keep hba
 have HRB:=Lib.hid hrm.2.2
 have HKL:=Lib.hid hkl
 have hyl:ys.length=nb:=hbs.1.1
 have hnk:=hrm.1
 have hkw:=IL.len_wt kids
 have hn:=hok.2.1
 have hsl:=sl_len text
 have hk0:kids=.nil:=IL.len_zero _ (by simp [fieldsB] at hfl;simp_all)
 have HLY:Hid (layI (.mk 3 n ys text kids)=headB 2 nb++ys):=by show _=_;rw [hk0];simp [layI,layIs,hyl]
 clear hk0 hfl her
 have CH:=Lib.hid (fun W=>rhead_calls 2 2 rfl (by omega) nb (by unfold okSize;omega) W)
 have wu:IntKind.u64.wrap (nb:Int)=(nb:Int):=IntWalk.u64_in _ (by omega)
 obtain ⟨f0,f1,f2,f3,f4,l0⟩:=hxa
 clear hba hok hbs hks hrm hyl hkl hkw hsl
 have hyl9:ys.length≤1000002:=by omega
 have hhl:(headB 2 nb).length≤9:=by rw [headB_len];have:=needN_le nb;omega
 have HKP:Hid (∀ W,Below wa.heap.size wa W→W.cell? ⟨gb,2,none⟩=some (.slice ab nb cb)):=fun W hW=>cell_below hW f2
 have HSR:Hid (∀ W,Below wa.heap.size wa W→SrcB W (.slice ab nb cb) ys):=fun W hW=>⟨ab,nb,cb,rfl,HYS.out.keep hW,HRB.out.1⟩
 generalize headB 2 nb=H at CH HLY hhl
 go_enter Tryz.func22,Tryz.ntmps22
 go_upto_region 1 with fail
 rw [← hwa,← hgb]
 clear hwa hgb
 go_wp2_with fail
 go_region_held3 (fun W=>W.cell? ⟨gb,2,none⟩=some (.slice ab nb cb)) ((with_reducible refine HKP.out _ ?_;(repeat' (first|with_reducible exact HS2.out.bel|with_reducible exact HS1.out.bel|with_reducible refine Below.drew ?_|with_reducible exact Below.refl _ _))))
  ((first
   | (go_at_call 39;refine (CH.out _).mono ?_;rintro e w1 ⟨v1,rfl,hs1⟩;have HS1:=Lib.hid (hs1.up (w:=wa) (by (repeat' (first|with_reducible refine Below.drew ?_|with_reducible exact Below.refl _ _))));clear hs1)
   | (refine arm_row (w:=wa) (v:=v1) (bs:=H) (u:=.slice ab nb cb) (l:=ys) (by rfl) _ _ (by rfl) (by rfl) (by rfl) ?_ ?_ ?_ ?_;(case _=>(repeat' (first|with_reducible exact HS1.out|with_reducible refine St.drew ?_)));(case _=>(with_reducible refine HSR.out _ ?_;(repeat' (first|with_reducible exact HS2.out.bel|with_reducible exact HS1.out.bel|with_reducible refine Below.drew ?_|with_reducible exact Below.refl _ _))));(case _=>omega);intro v2 w2 hs2 hl2;have HS2:=Lib.hid hs2;clear hs2 hl2)
   | fail))
 all_goals
  go_wp2_with fail
  go_ret
  rw [HLY.out]
  exact ⟨_,rfl,HS2.out.up HBA.out⟩
set_option maxRecDepth 100000 in
set_option maxHeartbeats 8000000 in
theorem rlay_4 (d:Nat) (hof:RLaySaid d) (n:Nat) (ys:List UInt8) (text:ByteArray) (kids:IL) (hd:I.wt (.mk 4 n ys text kids)≤d+1) (hfl:fieldsB 4 n ys.length text.size kids.len=true) (her:errIs kids=0) (hd9:d≤1000000) (w:World) (c:Array Value)
  (hr:RdIt (fun _=>True) w (.mk 4 n ys text kids) c):Calls Tryz.prog 22 #[.agg c] w (HeadO w (layI (.mk 4 n ys text kids))):=by
 simp only [I.wt] at hd
 obtain ⟨ab,nb,cb,ak,nk,ck,rfl,hok,hbs,hkl,hrm,hks⟩:=hr
 obtain ⟨wa,hwa⟩:∃ W,W=w.alloc (.cells #[.int .i64 4,.int .u64 (n:Nat),.slice ab nb cb,.string text,.slice ak nk ck] 39):=⟨_,rfl⟩
 obtain ⟨gb,hgb⟩:∃ q,q=w.heap.size:=⟨_,rfl⟩
 have hba:Below w.heap.size w wa:=by rw [hwa];exact (Below.refl _ _).alloc (Nat.le_refl _) _
 have hxa:ItBx wa gb 4 n ab nb cb text ak nk ck:=by rw [hwa,hgb];exact ItBx.new _ _ _ _ _ _ _ _ _ _ _
 have HXa:=Lib.hid hxa
 have HBA:=Lib.hid hba
 have HKS:Hid (RdIs (fun _=>True) wa ak 0 kids):=hks.below hba
 have HYS:Hid (RdB wa ab nb ys):=hbs.1.keep hba
 have HRB:=Lib.hid hrm.2.2
 have HKL:=Lib.hid hkl
 have hyl:ys.length=nb:=hbs.1.1
 have hnk:=hrm.1
 have hkw:=IL.len_wt kids
 have hn:=hok.2.1
 have hsl:=sl_len text
 have hk0:kids=.nil:=IL.len_zero _ (by simp [fieldsB] at hfl;simp_all)
 have HLY:Hid (layI (.mk 4 n ys text kids)=headB 3 text.size++sl text):=by show _=_;rw [hk0];simp [layI,layIs,hyl]
 clear hk0 hfl her
 have CH:=Lib.hid (fun W=>rhead_calls 3 3 rfl (by omega) text.size (by unfold okSize;omega) W)
 have wu:IntKind.u64.wrap (text.size:Int)=(text.size:Int):=IntWalk.u64_in _ (by omega)
 obtain ⟨f0,f1,f2,f3,f4,l0⟩:=hxa
 clear hba hok hbs hks hrm hyl hkl hkw
 have hhl:(headB 3 text.size).length≤9:=by rw [headB_len];have:=needN_le text.size;omega
 have ht9:text.size≤1000002:=by omega
 have HKP:Hid (∀ W,Below wa.heap.size wa W→W.cell? ⟨gb,3,none⟩=some (.string text)):=fun W hW=>cell_below hW f3
 generalize headB 3 text.size=H at CH HLY hhl
 clear hsl
 go_enter Tryz.func22,Tryz.ntmps22
 go_upto_region 1 with fail
 rw [← hwa,← hgb]
 clear hwa hgb
 go_wp2_with fail
 go_region_held3 (fun W=>W.cell? ⟨gb,3,none⟩=some (.string text)) ((with_reducible refine HKP.out _ ?_;(repeat' (first|with_reducible exact HS2.out.bel|with_reducible exact HS1.out.bel|with_reducible refine Below.drew ?_|with_reducible exact Below.refl _ _))))
  ((first
   | (go_at_call 39;refine (CH.out _).mono ?_;rintro e w1 ⟨v1,rfl,hs1⟩;have HS1:=Lib.hid (hs1.up (w:=wa) (by (repeat' (first|with_reducible refine Below.drew ?_|with_reducible exact Below.refl _ _))));clear hs1)
   | (refine arm_txt (w:=wa) (v:=v1) (bs:=H) (t:=text) (by rfl) _ _ (by rfl) (by rfl) (by rfl) ?_ ?_ ?_;(case _=>(repeat' (first|with_reducible exact HS1.out|with_reducible refine St.drew ?_)));(case _=>omega);intro v2 w2 hs2 hl2;have HS2:=Lib.hid hs2;clear hs2 hl2)
   | fail))
 all_goals
  go_wp2_with fail
  go_ret
  rw [HLY.out]
  exact ⟨_,rfl,HS2.out.up HBA.out⟩
set_option maxRecDepth 100000 in
set_option maxHeartbeats 8000000 in
theorem rlay_5 (d:Nat) (hof:RLaySaid d) (n:Nat) (ys:List UInt8) (text:ByteArray) (kids:IL) (hd:I.wt (.mk 5 n ys text kids)≤d+1) (hfl:fieldsB 5 n ys.length text.size kids.len=true) (her:errIs kids=0) (hd9:d≤1000000) (w:World) (c:Array Value)
  (hr:RdIt (fun _=>True) w (.mk 5 n ys text kids) c):Calls Tryz.prog 22 #[.agg c] w (HeadO w (layI (.mk 5 n ys text kids))):=by
 simp only [I.wt] at hd
 obtain ⟨ab,nb,cb,ak,nk,ck,rfl,hok,hbs,hkl,hrm,hks⟩:=hr
 obtain ⟨wa,hwa⟩:∃ W,W=w.alloc (.cells #[.int .i64 5,.int .u64 (n:Nat),.slice ab nb cb,.string text,.slice ak nk ck] 39):=⟨_,rfl⟩
 obtain ⟨gb,hgb⟩:∃ q,q=w.heap.size:=⟨_,rfl⟩
 have hba:Below w.heap.size w wa:=by rw [hwa];exact (Below.refl _ _).alloc (Nat.le_refl _) _
 have hxa:ItBx wa gb 5 n ab nb cb text ak nk ck:=by rw [hwa,hgb];exact ItBx.new _ _ _ _ _ _ _ _ _ _ _
 have HXa:=Lib.hid hxa
 have HBA:=Lib.hid hba
 have HKS:Hid (RdIs (fun _=>True) wa ak 0 kids):=hks.below hba
 have HYS:Hid (RdB wa ab nb ys):=hbs.1.keep hba
 have HRB:=Lib.hid hrm.2.2
 have HKL:=Lib.hid hkl
 have hyl:ys.length=nb:=hbs.1.1
 have hnk:=hrm.1
 have hkw:=IL.len_wt kids
 have hn:=hok.2.1
 have hsl:=sl_len text
 obtain ⟨H,hH⟩:∃ H,H=headB 4 nk:=⟨_,rfl⟩
 have HLY:Hid (layI (.mk 5 n ys text kids)=H++layIs kids):=by show _=_;rw [hH];simp [layI,hkl]
 have hHl:H.length≤9:=by rw [hH,headB_len];have:=needN_le nk;omega
 obtain ⟨T,hT⟩:∃ q,q=kids.wt:=⟨_,rfl⟩
 have HM:Hid (H.length+9 * (kids.drop 0).wt≤100+9 * T):=by show _≤_;rw [hT,show IL.drop 0 kids=kids from by cases kids<;>rfl];omega
 clear hfl
 have CH:=Lib.hid (fun W=>rhead_calls 4 4 rfl (by omega) nk (by unfold okSize;omega) W)
 rw [← hH] at CH
 clear hH hHl
 have wu:IntKind.u64.wrap (nk:Int)=(nk:Int):=IntWalk.u64_in _ (by omega)
 obtain ⟨f0,f1,f2,f3,f4,l0⟩:=hxa
 clear hba hok hbs hks hrm hyl hkl hsl
 go_enter Tryz.func22,Tryz.ntmps22
 go_upto_region 1 with fail
 rw [← hwa,← hgb]
 clear hwa hgb
 go_wp2_with fail
 refine (CH.out _).mono ?_
 rintro e w1 ⟨v1,rfl,hs1⟩
 have HS1:=Lib.hid hs1
 clear hs1 CH f0 f1 f2 f3 f4 l0
 go_wp2_with fail
 go_loopw [3,4] (fun q i wr=>RRel wa kids (H++layIs kids) (100+9 * T) q i wr) (fun _ i _=>nk - (intOf i).toNat)
 case atStart=>exact ⟨0,v1,H,rfl,rfl,Nat.zero_le _,by show _=_;simp [IL.drop],HS1,HM.out⟩
 case round=>
  obtain ⟨j,vr,cur,rfl,rfl,hj,htot,hst0,hM⟩:=hrel
  rw [HKL.out] at hj
  have hB0:Below wa.heap.size wa wr:=hst0.out.bel
  have HB0:=Lib.hid hB0
  obtain ⟨f0,f1,f2,f3,f4,l0⟩:=HXa.out.keep hB0
  by_cases hlt:j < nk
  ·obtain ⟨x,hx⟩:=IL.get_some kids j (by rw [HKL.out];exact hlt)
   have hwg2:=IL.wt_get kids j x hx
   have hst:=layIs_step kids j x hx
   have hll:=layI_len x
   have hdw:=IL.drop_wt kids j
   obtain ⟨b,o,k',n',bs',text',kids',ab',nb',cb',ak',nk',ck',hab,hxe,hblt,hxr,h0,h1,h2,h3,h4⟩:=(HKS.out.at hx).cells
   subst hab
   have CL:=Lib.hid (hof x (by omega) (errIs_get kids j x her hx) wr _ (hxr.below hB0))
   have y0:wr.cell? ⟨b,o+j * 5,none⟩=some (.int .i64 k'):=cell_below hB0 h0
   have y1:wr.cell? ⟨b,o+j * 5+1,none⟩=some (.int .u64 (n':Nat)):=cell_below hB0 h1
   have y2:wr.cell? ⟨b,o+j * 5+2,none⟩=some (.slice ab' nb' cb'):=cell_below hB0 h2
   have y3:wr.cell? ⟨b,o+j * 5+3,none⟩=some (.string text'):=cell_below hB0 h3
   have y4:wr.cell? ⟨b,o+j * 5+4,none⟩=some (.slice ak' nk' ck'):=cell_below hB0 h4
   have hj0:(0:Int)≤(j:Int):=by omega
   have hj1:(j:Int) < (nk:Int):=by omega
   obtain ⟨L,hL⟩:∃ q,q=layI x:=⟨_,rfl⟩
   rw [← hL] at CL hst hll
   have HREL:Hid (H++layIs kids=(cur++L)++layIs (kids.drop (j+1))):=by show _=_;rw [htot.out,hst];simp
   have HMM:Hid ((cur++L).length+9 * (kids.drop (j+1)).wt≤100+9 * T):=by show _≤_;rw [List.length_append];omega
   have hcl:cur.length+L.length≤90000000000:=by omega
   clear hx hwg2 hst hxr h0 h1 h2 h3 h4 hxe htot hM hdw hll hL hB0
   go_wp2_with fail
   refine CL.out.mono ?_
   rintro e w6 ⟨v6,rfl,hs6⟩
   have HSV:Hid (SrcB w6 v6 L):=hs6.1.srcB
   have HS6:Hid (St wa vr cur w6):=hst0.out.keep hs6.2
   clear hs6 y0 y1 y2 y3 y4 CL
   go_wp2_with (at_builtin;refine wpList_appB (v:=vr) (bs:=cur) (sv:=v6) (l:=L) (B:=wa.heap.size) (by rfl) _ _ (by rfl) (by rfl) HS6.out.1 (by rfl) HSV.out ?o1 ?o2 ?_)
   case o1=>omega
   case o2=>exact HS6.out.size
   intro v7 w7 ho7 hl7
   have HS7:Hid (St wa v7 (cur++L) w7):=HS6.out.lay ho7 (LayF.app hl7)
   clear ho7 hl7
   go_wp2_with fail
   go_roundw
   case rel=>exact ⟨j+1,v7,cur++L,by simp,rfl,by rw [HKL.out];omega,HREL,HS7,HMM.out⟩
   case measure=>simp [intOf];omega
  ·have hend:=layIs_end kids j (by rw [HKL.out];omega)
   have HT:Hid (H++layIs kids=cur):=by show _=_;rw [htot.out,hend,List.append_nil]
   clear htot hM hend
   go_wp2_with fail
   go_ret
   refine ⟨_,rfl,?_⟩
   rw [HLY.out,HT.out]
   exact hst0.out.up HBA.out
set_option maxRecDepth 100000 in
set_option maxHeartbeats 8000000 in
theorem rlay_6 (d:Nat) (hof:RLaySaid d) (n:Nat) (ys:List UInt8) (text:ByteArray) (kids:IL) (hd:I.wt (.mk 6 n ys text kids)≤d+1) (hfl:fieldsB 6 n ys.length text.size kids.len=true) (her:errIs kids=0) (hd9:d≤1000000) (w:World) (c:Array Value)
  (hr:RdIt (fun _=>True) w (.mk 6 n ys text kids) c):Calls Tryz.prog 22 #[.agg c] w (HeadO w (layI (.mk 6 n ys text kids))):=by
 simp only [I.wt] at hd
 obtain ⟨ab,nb,cb,ak,nk,ck,rfl,hok,hbs,hkl,hrm,hks⟩:=hr
 obtain ⟨wa,hwa⟩:∃ W,W=w.alloc (.cells #[.int .i64 6,.int .u64 (n:Nat),.slice ab nb cb,.string text,.slice ak nk ck] 39):=⟨_,rfl⟩
 obtain ⟨gb,hgb⟩:∃ q,q=w.heap.size:=⟨_,rfl⟩
 have hba:Below w.heap.size w wa:=by rw [hwa];exact (Below.refl _ _).alloc (Nat.le_refl _) _
 have hxa:ItBx wa gb 6 n ab nb cb text ak nk ck:=by rw [hwa,hgb];exact ItBx.new _ _ _ _ _ _ _ _ _ _ _
 have HXa:=Lib.hid hxa
 have HBA:=Lib.hid hba
 have HKS:Hid (RdIs (fun _=>True) wa ak 0 kids):=hks.below hba
 have HYS:Hid (RdB wa ab nb ys):=hbs.1.keep hba
 have HRB:=Lib.hid hrm.2.2
 have HKL:=Lib.hid hkl
 have hyl:ys.length=nb:=hbs.1.1
 have hnk:=hrm.1
 have hkw:=IL.len_wt kids
 have hn:=hok.2.1
 have hsl:=sl_len text
 obtain ⟨H,hH⟩:∃ H,H=headB 5 (nk / 2):=⟨_,rfl⟩
 have HLY:Hid (layI (.mk 6 n ys text kids)=H++layIs kids):=by show _=_;rw [hH];simp [layI,hkl]
 have hHl:H.length≤9:=by rw [hH,headB_len];have:=needN_le (nk / 2);omega
 obtain ⟨T,hT⟩:∃ q,q=kids.wt:=⟨_,rfl⟩
 have HM:Hid (H.length+9 * (kids.drop 0).wt≤100+9 * T):=by show _≤_;rw [hT,show IL.drop 0 kids=kids from by cases kids<;>rfl];omega
 clear hfl
 have CH:=Lib.hid (fun W=>rhead_calls 5 5 rfl (by omega) (nk / 2) (by unfold okSize;omega) W)
 rw [← hH] at CH
 clear hH hHl
 have wq:(nk:Int).tdiv 2=((nk / 2:Nat):Int):=by rw [Int.tdiv_eq_ediv_of_nonneg (by omega)];omega
 have wq2:IntKind.i64.wrap ((nk / 2:Nat):Int)=((nk / 2:Nat):Int):=IntWalk.i64_in _ (by omega)
 have wu:IntKind.u64.wrap ((nk / 2:Nat):Int)=((nk / 2:Nat):Int):=IntWalk.u64_in _ (by omega)
 obtain ⟨h2,hh2⟩:∃ q,q=nk / 2:=⟨_,rfl⟩
 rw [← hh2] at wq wq2 wu CH
 clear hh2
 obtain ⟨f0,f1,f2,f3,f4,l0⟩:=hxa
 clear hba hok hbs hks hrm hyl hkl hsl
 go_enter Tryz.func22,Tryz.ntmps22
 go_upto_region 1 with fail
 rw [← hwa,← hgb]
 clear hwa hgb
 go_wp2_with fail
 refine (CH.out _).mono ?_
 rintro e w1 ⟨v1,rfl,hs1⟩
 have HS1:=Lib.hid hs1
 clear hs1 CH f0 f1 f2 f3 f4 l0
 go_wp2_with fail
 go_loopw [3,4] (fun q i wr=>RRel wa kids (H++layIs kids) (100+9 * T) q i wr) (fun _ i _=>nk - (intOf i).toNat)
 case atStart=>exact ⟨0,v1,H,rfl,rfl,Nat.zero_le _,by show _=_;simp [IL.drop],HS1,HM.out⟩
 case round=>
  obtain ⟨j,vr,cur,rfl,rfl,hj,htot,hst0,hM⟩:=hrel
  rw [HKL.out] at hj
  have hB0:Below wa.heap.size wa wr:=hst0.out.bel
  have HB0:=Lib.hid hB0
  obtain ⟨f0,f1,f2,f3,f4,l0⟩:=HXa.out.keep hB0
  by_cases hlt:j < nk
  ·obtain ⟨x,hx⟩:=IL.get_some kids j (by rw [HKL.out];exact hlt)
   have hwg2:=IL.wt_get kids j x hx
   have hst:=layIs_step kids j x hx
   have hll:=layI_len x
   have hdw:=IL.drop_wt kids j
   obtain ⟨b,o,k',n',bs',text',kids',ab',nb',cb',ak',nk',ck',hab,hxe,hblt,hxr,h0,h1,h2,h3,h4⟩:=(HKS.out.at hx).cells
   subst hab
   have CL:=Lib.hid (hof x (by omega) (errIs_get kids j x her hx) wr _ (hxr.below hB0))
   have y0:wr.cell? ⟨b,o+j * 5,none⟩=some (.int .i64 k'):=cell_below hB0 h0
   have y1:wr.cell? ⟨b,o+j * 5+1,none⟩=some (.int .u64 (n':Nat)):=cell_below hB0 h1
   have y2:wr.cell? ⟨b,o+j * 5+2,none⟩=some (.slice ab' nb' cb'):=cell_below hB0 h2
   have y3:wr.cell? ⟨b,o+j * 5+3,none⟩=some (.string text'):=cell_below hB0 h3
   have y4:wr.cell? ⟨b,o+j * 5+4,none⟩=some (.slice ak' nk' ck'):=cell_below hB0 h4
   have hj0:(0:Int)≤(j:Int):=by omega
   have hj1:(j:Int) < (nk:Int):=by omega
   obtain ⟨L,hL⟩:∃ q,q=layI x:=⟨_,rfl⟩
   rw [← hL] at CL hst hll
   have HREL:Hid (H++layIs kids=(cur++L)++layIs (kids.drop (j+1))):=by show _=_;rw [htot.out,hst];simp
   have HMM:Hid ((cur++L).length+9 * (kids.drop (j+1)).wt≤100+9 * T):=by show _≤_;rw [List.length_append];omega
   have hcl:cur.length+L.length≤90000000000:=by omega
   clear hx hwg2 hst hxr h0 h1 h2 h3 h4 hxe htot hM hdw hll hL hB0
   go_wp2_with fail
   refine CL.out.mono ?_
   rintro e w6 ⟨v6,rfl,hs6⟩
   have HSV:Hid (SrcB w6 v6 L):=hs6.1.srcB
   have HS6:Hid (St wa vr cur w6):=hst0.out.keep hs6.2
   clear hs6 y0 y1 y2 y3 y4 CL
   go_wp2_with (at_builtin;refine wpList_appB (v:=vr) (bs:=cur) (sv:=v6) (l:=L) (B:=wa.heap.size) (by rfl) _ _ (by rfl) (by rfl) HS6.out.1 (by rfl) HSV.out ?o1 ?o2 ?_)
   case o1=>omega
   case o2=>exact HS6.out.size
   intro v7 w7 ho7 hl7
   have HS7:Hid (St wa v7 (cur++L) w7):=HS6.out.lay ho7 (LayF.app hl7)
   clear ho7 hl7
   go_wp2_with fail
   go_roundw
   case rel=>exact ⟨j+1,v7,cur++L,by simp,rfl,by rw [HKL.out];omega,HREL,HS7,HMM.out⟩
   case measure=>simp [intOf];omega
  ·have hend:=layIs_end kids j (by rw [HKL.out];omega)
   have HT:Hid (H++layIs kids=cur):=by show _=_;rw [htot.out,hend,List.append_nil]
   clear htot hM hend
   go_wp2_with fail
   go_ret
   refine ⟨_,rfl,?_⟩
   rw [HLY.out,HT.out]
   exact hst0.out.up HBA.out
set_option maxRecDepth 100000 in
set_option maxHeartbeats 8000000 in
theorem rlay_7 (d:Nat) (hof:RLaySaid d) (n:Nat) (ys:List UInt8) (text:ByteArray) (kids:IL) (hd:I.wt (.mk 7 n ys text kids)≤d+1) (hfl:fieldsB 7 n ys.length text.size kids.len=true) (her:errIs kids=0) (hd9:d≤1000000) (w:World) (c:Array Value)
  (hr:RdIt (fun _=>True) w (.mk 7 n ys text kids) c):Calls Tryz.prog 22 #[.agg c] w (HeadO w (layI (.mk 7 n ys text kids))):=by
 simp only [I.wt] at hd
 obtain ⟨ab,nb,cb,ak,nk,ck,rfl,hok,hbs,hkl,hrm,hks⟩:=hr
 obtain ⟨wa,hwa⟩:∃ W,W=w.alloc (.cells #[.int .i64 7,.int .u64 (n:Nat),.slice ab nb cb,.string text,.slice ak nk ck] 39):=⟨_,rfl⟩
 obtain ⟨gb,hgb⟩:∃ q,q=w.heap.size:=⟨_,rfl⟩
 have hba:Below w.heap.size w wa:=by rw [hwa];exact (Below.refl _ _).alloc (Nat.le_refl _) _
 have hxa:ItBx wa gb 7 n ab nb cb text ak nk ck:=by rw [hwa,hgb];exact ItBx.new _ _ _ _ _ _ _ _ _ _ _
 have HXa:=Lib.hid hxa
 have HBA:=Lib.hid hba
 have HKS:Hid (RdIs (fun _=>True) wa ak 0 kids):=hks.below hba
 have HYS:Hid (RdB wa ab nb ys):=hbs.1.keep hba
 have HRB:=Lib.hid hrm.2.2
 have HKL:=Lib.hid hkl
 have hyl:ys.length=nb:=hbs.1.1
 have hnk:=hrm.1
 have hkw:=IL.len_wt kids
 have hn:=hok.2.1
 have hsl:=sl_len text
 obtain ⟨H,hH⟩:∃ H,H=headB 6 n:=⟨_,rfl⟩
 have HLY:Hid (layI (.mk 7 n ys text kids)=H++layIs kids):=by show _=_;rw [hH];simp [layI,hkl]
 have hHl:H.length≤9:=by rw [hH,headB_len];have:=needN_le n;omega
 obtain ⟨T,hT⟩:∃ q,q=kids.wt:=⟨_,rfl⟩
 have HM:Hid (H.length+9 * (kids.drop 0).wt≤100+9 * T):=by show _≤_;rw [hT,show IL.drop 0 kids=kids from by cases kids<;>rfl];omega
 clear hfl
 have CH:=Lib.hid (fun W=>rhead_calls 6 6 rfl (by omega) n hn W)
 rw [← hH] at CH
 clear hH hHl
 obtain ⟨f0,f1,f2,f3,f4,l0⟩:=hxa
 clear hba hok hbs hks hrm hyl hkl hsl
 go_enter Tryz.func22,Tryz.ntmps22
 go_upto_region 1 with fail
 rw [← hwa,← hgb]
 clear hwa hgb
 go_wp2_with fail
 refine (CH.out _).mono ?_
 rintro e w1 ⟨v1,rfl,hs1⟩
 have HS1:=Lib.hid hs1
 clear hs1 CH f0 f1 f2 f3 f4 l0
 go_wp2_with fail
 go_loopw [3,4] (fun q i wr=>RRel wa kids (H++layIs kids) (100+9 * T) q i wr) (fun _ i _=>nk - (intOf i).toNat)
 case atStart=>exact ⟨0,v1,H,rfl,rfl,Nat.zero_le _,by show _=_;simp [IL.drop],HS1,HM.out⟩
 case round=>
  obtain ⟨j,vr,cur,rfl,rfl,hj,htot,hst0,hM⟩:=hrel
  rw [HKL.out] at hj
  have hB0:Below wa.heap.size wa wr:=hst0.out.bel
  have HB0:=Lib.hid hB0
  obtain ⟨f0,f1,f2,f3,f4,l0⟩:=HXa.out.keep hB0
  by_cases hlt:j < nk
  ·obtain ⟨x,hx⟩:=IL.get_some kids j (by rw [HKL.out];exact hlt)
   have hwg2:=IL.wt_get kids j x hx
   have hst:=layIs_step kids j x hx
   have hll:=layI_len x
   have hdw:=IL.drop_wt kids j
   obtain ⟨b,o,k',n',bs',text',kids',ab',nb',cb',ak',nk',ck',hab,hxe,hblt,hxr,h0,h1,h2,h3,h4⟩:=(HKS.out.at hx).cells
   subst hab
   have CL:=Lib.hid (hof x (by omega) (errIs_get kids j x her hx) wr _ (hxr.below hB0))
   have y0:wr.cell? ⟨b,o+j * 5,none⟩=some (.int .i64 k'):=cell_below hB0 h0
   have y1:wr.cell? ⟨b,o+j * 5+1,none⟩=some (.int .u64 (n':Nat)):=cell_below hB0 h1
   have y2:wr.cell? ⟨b,o+j * 5+2,none⟩=some (.slice ab' nb' cb'):=cell_below hB0 h2
   have y3:wr.cell? ⟨b,o+j * 5+3,none⟩=some (.string text'):=cell_below hB0 h3
   have y4:wr.cell? ⟨b,o+j * 5+4,none⟩=some (.slice ak' nk' ck'):=cell_below hB0 h4
   have hj0:(0:Int)≤(j:Int):=by omega
   have hj1:(j:Int) < (nk:Int):=by omega
   obtain ⟨L,hL⟩:∃ q,q=layI x:=⟨_,rfl⟩
   rw [← hL] at CL hst hll
   have HREL:Hid (H++layIs kids=(cur++L)++layIs (kids.drop (j+1))):=by show _=_;rw [htot.out,hst];simp
   have HMM:Hid ((cur++L).length+9 * (kids.drop (j+1)).wt≤100+9 * T):=by show _≤_;rw [List.length_append];omega
   have hcl:cur.length+L.length≤90000000000:=by omega
   clear hx hwg2 hst hxr h0 h1 h2 h3 h4 hxe htot hM hdw hll hL hB0
   go_wp2_with fail
   refine CL.out.mono ?_
   rintro e w6 ⟨v6,rfl,hs6⟩
   have HSV:Hid (SrcB w6 v6 L):=hs6.1.srcB
   have HS6:Hid (St wa vr cur w6):=hst0.out.keep hs6.2
   clear hs6 y0 y1 y2 y3 y4 CL
   go_wp2_with (at_builtin;refine wpList_appB (v:=vr) (bs:=cur) (sv:=v6) (l:=L) (B:=wa.heap.size) (by rfl) _ _ (by rfl) (by rfl) HS6.out.1 (by rfl) HSV.out ?o1 ?o2 ?_)
   case o1=>omega
   case o2=>exact HS6.out.size
   intro v7 w7 ho7 hl7
   have HS7:Hid (St wa v7 (cur++L) w7):=HS6.out.lay ho7 (LayF.app hl7)
   clear ho7 hl7
   go_wp2_with fail
   go_roundw
   case rel=>exact ⟨j+1,v7,cur++L,by simp,rfl,by rw [HKL.out];omega,HREL,HS7,HMM.out⟩
   case measure=>simp [intOf];omega
  ·have hend:=layIs_end kids j (by rw [HKL.out];omega)
   have HT:Hid (H++layIs kids=cur):=by show _=_;rw [htot.out,hend,List.append_nil]
   clear htot hM hend
   go_wp2_with fail
   go_ret
   refine ⟨_,rfl,?_⟩
   rw [HLY.out,HT.out]
   exact hst0.out.up HBA.out
set_option maxRecDepth 100000 in
set_option maxHeartbeats 8000000 in
theorem rlay_8 (d:Nat) (hof:RLaySaid d) (n:Nat) (ys:List UInt8) (text:ByteArray) (kids:IL) (hd:I.wt (.mk 8 n ys text kids)≤d+1) (hfl:fieldsB 8 n ys.length text.size kids.len=true) (her:errIs kids=0) (hd9:d≤1000000) (w:World) (c:Array Value)
  (hr:RdIt (fun _=>True) w (.mk 8 n ys text kids) c):Calls Tryz.prog 22 #[.agg c] w (HeadO w (layI (.mk 8 n ys text kids))):=by
 simp only [I.wt] at hd
 obtain ⟨ab,nb,cb,ak,nk,ck,rfl,hok,hbs,hkl,hrm,hks⟩:=hr
 obtain ⟨wa,hwa⟩:∃ W,W=w.alloc (.cells #[.int .i64 8,.int .u64 (n:Nat),.slice ab nb cb,.string text,.slice ak nk ck] 39):=⟨_,rfl⟩
 obtain ⟨gb,hgb⟩:∃ q,q=w.heap.size:=⟨_,rfl⟩
 have hba:Below w.heap.size w wa:=by rw [hwa];exact (Below.refl _ _).alloc (Nat.le_refl _) _
 have hxa:ItBx wa gb 8 n ab nb cb text ak nk ck:=by rw [hwa,hgb];exact ItBx.new _ _ _ _ _ _ _ _ _ _ _
 have HXa:=Lib.hid hxa
 have HBA:=Lib.hid hba
 have HKS:Hid (RdIs (fun _=>True) wa ak 0 kids):=hks.below hba
 have HYS:Hid (RdB wa ab nb ys):=hbs.1.keep hba
 have HRB:=Lib.hid hrm.2.2
 have HKL:=Lib.hid hkl
 have hyl:ys.length=nb:=hbs.1.1
 have hnk:=hrm.1
 have hkw:=IL.len_wt kids
 have hn:=hok.2.1
 have hsl:=sl_len text
 have hk0:kids=.nil:=IL.len_zero _ (by simp [fieldsB] at hfl;simp_all)
 have HLY:Hid (layI (.mk 8 n ys text kids)=headB 7 n):=by show _=_;rw [hk0];simp [layI,layIs,hyl]
 clear hk0 hfl her
 have CH:=Lib.hid (fun W=>rhead_calls 7 7 rfl (by omega) n hn W)
 obtain ⟨f0,f1,f2,f3,f4,l0⟩:=hxa
 clear hba hok hbs hks hrm hyl hkl hkw hsl
 go_enter Tryz.func22,Tryz.ntmps22
 go_upto_region 1 with fail
 rw [← hwa,← hgb]
 clear hwa hgb
 go_wp2_with fail
 refine (CH.out _).mono ?_
 rintro e w1 ⟨v1,rfl,hs1⟩
 have HS1:=Lib.hid (hs1.up HBA.out)
 clear hs1 CH
 go_wp2_with fail
 go_ret
 rw [HLY.out]
 exact ⟨_,rfl,HS1.out⟩
set_option maxRecDepth 100000 in
set_option maxHeartbeats 8000000 in
theorem rlay_9 (d:Nat) (hof:RLaySaid d) (n:Nat) (ys:List UInt8) (text:ByteArray) (kids:IL) (hd:I.wt (.mk 9 n ys text kids)≤d+1) (hfl:fieldsB 9 n ys.length text.size kids.len=true) (her:errIs kids=0) (hd9:d≤1000000) (w:World) (c:Array Value)
  (hr:RdIt (fun _=>True) w (.mk 9 n ys text kids) c):Calls Tryz.prog 22 #[.agg c] w (HeadO w (layI (.mk 9 n ys text kids))):=by
 simp only [I.wt] at hd
 obtain ⟨ab,nb,cb,ak,nk,ck,rfl,hok,hbs,hkl,hrm,hks⟩:=hr
 obtain ⟨wa,hwa⟩:∃ W,W=w.alloc (.cells #[.int .i64 9,.int .u64 (n:Nat),.slice ab nb cb,.string text,.slice ak nk ck] 39):=⟨_,rfl⟩
 obtain ⟨gb,hgb⟩:∃ q,q=w.heap.size:=⟨_,rfl⟩
 have hba:Below w.heap.size w wa:=by rw [hwa];exact (Below.refl _ _).alloc (Nat.le_refl _) _
 have hxa:ItBx wa gb 9 n ab nb cb text ak nk ck:=by rw [hwa,hgb];exact ItBx.new _ _ _ _ _ _ _ _ _ _ _
 have HXa:=Lib.hid hxa
 have HBA:=Lib.hid hba
 have HKS:Hid (RdIs (fun _=>True) wa ak 0 kids):=hks.below hba
 have HYS:Hid (RdB wa ab nb ys):=hbs.1.keep hba
 have HRB:=Lib.hid hrm.2.2
 have HKL:=Lib.hid hkl
 have hyl:ys.length=nb:=hbs.1.1
 have hnk:=hrm.1
 have hkw:=IL.len_wt kids
 have hn:=hok.2.1
 have hsl:=sl_len text
 have hk0:kids=.nil:=IL.len_zero _ (by simp [fieldsB] at hfl;simp_all)
 have HLY:Hid (layI (.mk 9 n ys text kids)=[251]++(leBytes 8 n).reverse):=by show _=_;rw [hk0];simp [layI,layIs,hyl]
 clear hk0 hfl her
 obtain ⟨f0,f1,f2,f3,f4,l0⟩:=hxa
 clear hba hok hbs hks hrm hyl hkl hkw hsl
 have CP:=Lib.hid (fun W=>putHigh_calls n 8 hn W)
 have HS:Hid (putHighS n 8=(leBytes 8 n).reverse):=rfl
 have hlen:(leBytes 8 n).reverse.length=8:=by simp [leBytes_length]
 generalize (leBytes 8 n).reverse=T at HS HLY hlen
 rw [HS.out] at CP
 go_enter Tryz.func22,Tryz.ntmps22
 go_upto_region 1 with fail
 rw [← hwa,← hgb]
 clear hwa hgb
 go_wp2_with fail
 refine (CP.out _).mono ?_
 rintro e wb ⟨v,rfl,ho,hb⟩
 have HO:=Lib.hid ho
 have HF1:Hid (OwnB wb wa.heap.size (.slice (some ⟨wa.heap.size,0,none⟩) 1 1) [UInt8.ofNat 251]):=(own_fresh wa _ 251 (by omega) (Nat.le_refl _)).keep hb
 have HB:Hid (Below wa.heap.size wa wb):=((Below.refl _ _).alloc (Nat.le_refl _) _).trans (hb.mono (by simp))
 clear ho hb CP
 go_wp2_with (at_builtin;refine wpList_appB (v:=.slice (some ⟨wa.heap.size,0,none⟩) 1 1) (bs:=[UInt8.ofNat 251]) (sv:=v) (l:=T) (B:=wa.heap.size) (by rfl) _ _ (by rfl) (by rfl) HF1.out (by rfl) HO.out.srcB ?o1 ?o2 ?_)
 case o1=>simp [hlen]
 case o2=>exact HB.out.size
 intro v2 wd ho2 hl2
 have HO2:=Lib.hid ho2
 have HB2:=Lib.hid ((LayF.app hl2).below HB.out HB.out.size (fun k hk=>(owns_lt HF1.out k hk).1))
 clear ho2 hl2
 go_wp2_with fail
 go_ret
 rw [HLY.out]
 exact ⟨_,rfl,St.up ⟨HO2.out,HB2.out⟩ HBA.out⟩
theorem rlay_step (d:Nat) (hd9:d≤1000000) (hof:RLaySaid d):RLaySaid (d+1):=by
 intro x hd her w c hr
 obtain ⟨k,n,ys,text,kids⟩:=x
 obtain ⟨hk,hfl,-,hke⟩:=errI_ok her
 have:k=1∨k=2∨k=3∨k=4∨k=5∨k=6∨k=7∨k=8∨k=9:=by omega
 rcases this with rfl|rfl|rfl|rfl|rfl|rfl|rfl|rfl|rfl
 ·exact rlay_1 d hof n ys text kids hd hfl hke hd9 w c hr
 ·exact rlay_2 d hof n ys text kids hd hfl hke hd9 w c hr
 ·exact rlay_3 d hof n ys text kids hd hfl hke hd9 w c hr
 ·exact rlay_4 d hof n ys text kids hd hfl hke hd9 w c hr
 ·exact rlay_5 d hof n ys text kids hd hfl hke hd9 w c hr
 ·exact rlay_6 d hof n ys text kids hd hfl hke hd9 w c hr
 ·exact rlay_7 d hof n ys text kids hd hfl hke hd9 w c hr
 ·exact rlay_8 d hof n ys text kids hd hfl hke hd9 w c hr
 ·exact rlay_9 d hof n ys text kids hd hfl hke hd9 w c hr
theorem rlay_all:∀ d,d≤1000001→RLaySaid d
 | 0,_=>fun x h=>by have:=I.wt_pos x;omega
 | d+1,h=>rlay_step d (by omega) (rlay_all d (by omega))
end Go.Proofs.YtmooaepbdmengaaGreatDoor
