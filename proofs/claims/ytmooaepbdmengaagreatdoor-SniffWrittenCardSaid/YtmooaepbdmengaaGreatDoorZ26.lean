/- Parts of the proof of SniffWritten: SwP, SwS, SwT, SwU. -/
import Derived.Test.YtmooaepbdmengaaGreatDoorZ25
import Derived.Deep.RegionWith
namespace Go.Proofs.YtmooaepbdmengaaGreatDoor
open Go.RowKit
set_option linter.unusedVariables false
set_option linter.unusedSimpArgs false
def TiA (w:World) (g4 g6 g7 g8:Nat) (W:World):Prop:=ArrI W g4 2∧ArrI W g6 4∧ArrI W g7 2∧ArrI W g8 6∧Below w.heap.size w W
theorem TiA.keep {w:World} {g4 g6 g7 g8:Nat} {W W':World} (h:TiA w g4 g6 g7 g8 W) (hb:Below W.heap.size W W'):TiA w g4 g6 g7 g8 W':=
 ⟨h.1.keep hb,h.2.1.keep hb,h.2.2.1.keep hb,h.2.2.2.1.keep hb,h.2.2.2.2.trans (hb.mono h.2.2.2.2.size)⟩
theorem TiA.set {w:World} {g4 g6 g7 g8:Nat} {W:World} (h:TiA w g4 g6 g7 g8 W) (hg:w.heap.size≤g8) (i:Nat) (x:Int):TiA w g4 g6 g7 g8 (W.setCell ⟨g8,i,none⟩ (.int .u64 x)):=
 ⟨h.1.set _ _ _,h.2.1.set _ _ _,h.2.2.1.set _ _ _,h.2.2.2.1.set _ _ _,h.2.2.2.2.setCell hg _⟩
theorem below_drw {w w':World} (h:Below w.drew.heap.size w.drew w'):Below w.heap.size w w':=((Below.refl w.heap.size w).drew).trans h
set_option maxRecDepth 100000 in
set_option maxHeartbeats 64000000 in
theorem wtimes_calls (a b:Nat) (c:Int) (w:World):Calls Tryz.prog 118 #[.agg #[.int .u64 (a:Nat),.int .u64 (b:Nat)],.int .u64 c] w fun e w'=>(∃ v z,e=.returned (.tuple #[v,.int .u64 z])∧WideR v)∧Below w.heap.size w w':=by
 have CL:=Lib.hid (fun a b W=>limbs_world a b W)
 go_enter Tryz.func118,Tryz.ntmps118
 go_upto_region 1 with fail
 go_cut [4,6] from 13 to 14 (fun p4 p6 W=>∃ g4 g6,p4=.pointer (some ⟨g4,0,none⟩)∧p6=.pointer (some ⟨g6,0,none⟩)∧w.heap.size≤g4∧ArrI W g4 2∧ArrI W g6 4∧Below w.heap.size w W)
 case first=>
  go_wp2_with fail
  refine (CL.out _ _ _).mono ?_
  rintro e w5 ⟨rfl,rfl⟩
  go_wp2_with fail
  go_meet
  case rel=>
   refine ⟨_,_,rfl,rfl,?_,?_,?_,?_⟩
   ·simp
   ·intro j hj
    rcases (by omega:j=0∨j=1) with rfl|rfl<;>exact ⟨⟨_,by simp [go_sem];try rfl⟩,by simp [go_sem]⟩
   ·intro j hj
    rcases (by omega:j=0∨j=1∨j=2∨j=3) with rfl|rfl|rfl|rfl<;>exact ⟨⟨_,by simp [go_sem];try rfl⟩,by simp [go_sem]⟩
   ·(repeat' (first|with_reducible assumption|with_reducible exact Below.refl _ _|with_reducible refine below_alZ ?_ (Nat.le_refl _) _|with_reducible refine Below.drew ?_))
 obtain ⟨g4,g6,rfl,rfl,hg4,a4,a6,hbc⟩:=hcut
 have HP:=Lib.hid (show w.heap.size≤g4∧ArrI wc g4 2∧ArrI wc g6 4∧Below w.heap.size w wc from ⟨hg4,a4,a6,hbc⟩)
 clear hg4 a4 a6 hbc CL
 obtain ⟨wa,rfl⟩:∃ W:World,W=wc:=⟨_,rfl⟩
 go_upto_region 3 with fail
 go_cut [7,8] from 15 (fun p7 p8 W=>∃ g7 g8,p7=.pointer (some ⟨g7,0,none⟩)∧p8=.pointer (some ⟨g8,0,none⟩)∧wa.heap.size≤g8∧ArrI W g7 2∧ArrI W g8 6∧Below wa.heap.size wa W)
 case first=>
  go_wp2_with fail
  go_meet
  case rel=>
   refine ⟨_,_,rfl,rfl,?_,?_,?_,?_⟩
   ·simp
   ·intro j hj
    rcases (by omega:j=0∨j=1) with rfl|rfl<;>exact ⟨⟨_,by simp [go_sem];try rfl⟩,by simp [go_sem]⟩
   ·intro j hj
    rcases (by omega:j=0∨j=1∨j=2∨j=3∨j=4∨j=5) with rfl|rfl|rfl|rfl|rfl|rfl<;>exact ⟨⟨_,by simp [go_sem];try rfl⟩,by simp [go_sem]⟩
   ·(repeat' (first|with_reducible assumption|with_reducible exact Below.refl _ _|with_reducible refine below_alZ ?_ (Nat.le_refl _) _|with_reducible refine Below.drew ?_))
 obtain ⟨g7,g8,rfl,rfl,hg8,a7,a8,hbc⟩:=hcut
 have HA0:Hid (TiA w g4 g6 g7 g8 wc):=⟨HP.out.2.1.keep hbc,HP.out.2.2.1.keep hbc,a7,a8,HP.out.2.2.2.trans (hbc.mono HP.out.2.2.2.size)⟩
 have HNE:Hid (g4≠g8):=by
  have:=HP.out.2.1.lt (by omega)
  show g4≠g8;omega
 have HG4:=Lib.hid HP.out.1
 have HG8:=Lib.hid (Nat.le_trans HP.out.2.2.2.size hg8)
 clear hg8 a7 a8 hbc HP
 go_wp2_with fail
 go_loopw [9,10,11,12] (fun k _ _ _ wr=>(∃ (p:Nat),k=.int .i64 (p:Nat)∧p≤2)∧Hid (TiA w g4 g6 g7 g8 wr)) (fun k _ _ _ _=>2 - (intOf k).toNat)
 case atStart=>exact ⟨⟨0,rfl,by omega⟩,HA0⟩
 case round=>
  obtain ⟨⟨k,rfl,hk⟩,HA⟩:=hrel
  by_cases hlt:k < 2
  ·obtain ⟨wo,rfl⟩:∃ wo:World,wo=wr:=⟨_,rfl⟩
   go_wp2_with fail
   go_loopw [10,11,12] (fun c i _ wr=>(∃ (p:Nat) (x:Int),c=.int .u64 x∧i=.int .i64 (p:Nat)∧p≤4)∧Hid (TiA w g4 g6 g7 g8 wr)) (fun _ i _ _=>4 - (intOf i).toNat)
   case atStart=>exact ⟨⟨0,0,rfl,rfl,by omega⟩,HA⟩
   case round=>
    obtain ⟨⟨p,x,rfl,rfl,hp⟩,HA1⟩:=hrel
    by_cases hp4:p < 4
    ·obtain ⟨⟨x6,h6⟩,-⟩:=HA1.out.2.1 p hp4
     obtain ⟨⟨x7,h7⟩,-⟩:=HA1.out.2.2.1 k hlt
     obtain ⟨⟨x8,h8⟩,-⟩:=HA1.out.2.2.2.1 (p+k) (by omega)
     have i1:(0:Int)≤(p:Int):=by omega
     have i2:(p:Int) < 4:=by omega
     have i3:(k:Int) < 2:=by omega
     have i4:(0:Int)≤(k:Int):=by omega
     have i5:(p:Int)+(k:Int) < 6:=by omega
     have i6:(0:Int)≤(p:Int)+(k:Int):=by omega
     have i7:((p:Int)+(k:Int)).toNat=p+k:=by omega
     have i8:IntKind.i64.wrap ((p:Int)+(k:Int))=(p:Int)+(k:Int):=IntWalk.i64_in _ (by omega)
     go_wp2_with fail
     go_quiet (fail)
     obtain ⟨wq,hwq⟩:∃ wq,wq=wr.drewN nq:=⟨_,rfl⟩
     rw [← hwq]
     have hdq:Below wr.heap.size wr wq:=by rw [hwq];exact below_drewN _ _ _
     obtain ⟨⟨x9,h9⟩,f9⟩:=(HA1.out.keep hdq).2.2.2.1 (p+k) (by omega)
     have HN:∀ z:Int,Hid (TiA w g4 g6 g7 g8 (wq.setCell ⟨g8,p+k,none⟩ (.int .u64 z))):=fun z=>(HA1.out.keep hdq).set HG8.out _ _
     clear hwq hdq h6 h7 h8
     go_wp2_with fail
     go_roundw
     case rel=>exact ⟨⟨p+1,_,rfl,by simp,by omega⟩,HN _⟩
     case measure=>simp [intOf];omega
    ·obtain rfl:p=4:=by omega
     obtain ⟨⟨x9,h9⟩,f9⟩:=HA1.out.2.2.2.1 (4+k) (by omega)
     have i5:4+(k:Int) < 6:=by omega
     have i6:(0:Int)≤4+(k:Int):=by omega
     have i7:(4+(k:Int)).toNat=4+k:=by omega
     have i8:IntKind.i64.wrap (4+(k:Int))=4+(k:Int):=IntWalk.i64_in _ (by omega)
     have HN:∀ z:Int,Hid (TiA w g4 g6 g7 g8 (wr.setCell ⟨g8,4+k,none⟩ (.int .u64 z))):=fun z=>HA1.out.set HG8.out _ _
     go_wp2_with fail
     go_roundw
     case rel=>exact ⟨⟨k+1,by simp,by omega⟩,HN _⟩
     case measure=>simp [intOf];omega
  ·have HA8:=Lib.hid HA.out.2.2.2.1
   obtain ⟨⟨y0,z0⟩,-⟩:=HA8.out 0 (by omega)
   obtain ⟨⟨y1,z1⟩,-⟩:=HA8.out 1 (by omega)
   obtain ⟨⟨y2,z2⟩,-⟩:=HA8.out 2 (by omega)
   obtain ⟨⟨y3,z3⟩,-⟩:=HA8.out 3 (by omega)
   obtain ⟨⟨y4,z4⟩,-⟩:=HA8.out 4 (by omega)
   obtain ⟨⟨y5,z5⟩,-⟩:=HA8.out 5 (by omega)
   have CW:=Lib.hid (fun W=>wide_calls y0 y1 y2 y3 y4 y5 W)
   have HKS:Hid (∀ W,Below wr.heap.size wr W→Hid (True)∧W.cell? ⟨g8,0,none⟩=some (.int .u64 y0)∧W.cell? ⟨g8,1,none⟩=some (.int .u64 y1)∧W.cell? ⟨g8,2,none⟩=some (.int .u64 y2)∧W.cell? ⟨g8,3,none⟩=some (.int .u64 y3)∧W.cell? ⟨g8,4,none⟩=some (.int .u64 y4)∧W.cell? ⟨g8,5,none⟩=some (.int .u64 y5)):=fun W h=>⟨trivial,cell_below h z0,cell_below h z1,cell_below h z2,cell_below h z3,cell_below h z4,cell_below h z5⟩
   have HKT:Hid (∀ (W:World) (i:Nat) (u:Value),(Hid (True)∧W.cell? ⟨g8,0,none⟩=some (.int .u64 y0)∧W.cell? ⟨g8,1,none⟩=some (.int .u64 y1)∧W.cell? ⟨g8,2,none⟩=some (.int .u64 y2)∧W.cell? ⟨g8,3,none⟩=some (.int .u64 y3)∧W.cell? ⟨g8,4,none⟩=some (.int .u64 y4)∧W.cell? ⟨g8,5,none⟩=some (.int .u64 y5))→(Hid (True)∧(W.setCell ⟨g4,i,none⟩ u).cell? ⟨g8,0,none⟩=some (.int .u64 y0)∧(W.setCell ⟨g4,i,none⟩ u).cell? ⟨g8,1,none⟩=some (.int .u64 y1)∧(W.setCell ⟨g4,i,none⟩ u).cell? ⟨g8,2,none⟩=some (.int .u64 y2)∧(W.setCell ⟨g4,i,none⟩ u).cell? ⟨g8,3,none⟩=some (.int .u64 y3)∧(W.setCell ⟨g4,i,none⟩ u).cell? ⟨g8,4,none⟩=some (.int .u64 y4)∧(W.setCell ⟨g4,i,none⟩ u).cell? ⟨g8,5,none⟩=some (.int .u64 y5))):=fun W i u h=>by
    have hne:∀ j,(⟨g4,i,none⟩:Addr)≠⟨g8,j,none⟩:=fun j e=>HNE.out (by simpa using congrArg Addr.block e)
    obtain ⟨h,h0,h1,h2,h3,h4,h5⟩:=h
    exact ⟨h,(World.cell?_setCell_other W _ _ _ (hne 0)).trans h0,(World.cell?_setCell_other W _ _ _ (hne 1)).trans h1,(World.cell?_setCell_other W _ _ _ (hne 2)).trans h2,(World.cell?_setCell_other W _ _ _ (hne 3)).trans h3,(World.cell?_setCell_other W _ _ _ (hne 4)).trans h4,(World.cell?_setCell_other W _ _ _ (hne 5)).trans h5⟩
   clear z0 z1 z2 z3 z4 z5
   go_upto_region 15 with fail
   go_region_held3 (fun W=>Hid (True)∧W.cell? ⟨g8,0,none⟩=some (.int .u64 y0)∧W.cell? ⟨g8,1,none⟩=some (.int .u64 y1)∧W.cell? ⟨g8,2,none⟩=some (.int .u64 y2)∧W.cell? ⟨g8,3,none⟩=some (.int .u64 y3)∧W.cell? ⟨g8,4,none⟩=some (.int .u64 y4)∧W.cell? ⟨g8,5,none⟩=some (.int .u64 y5))
    ((first
     | ((with_reducible refine HKS.out _ ?_);(repeat' (first|with_reducible assumption|with_reducible exact Below.refl _ _|with_reducible exact (‹Hid (Below wr.heap.size wr _)›).out|with_reducible refine Below.drew ?_));done)
     | ((repeat' (first|with_reducible refine HKT.out _ _ _ ?_));(with_reducible refine HKS.out _ ?_);(repeat' (first|with_reducible assumption|with_reducible exact Below.refl _ _|with_reducible exact (‹Hid (Below wr.heap.size wr _)›).out|with_reducible refine Below.drew ?_));done)))
    ((first
     | (go_at_call 121;(with_reducible refine (CW.out _).mono ?_);rintro e w5 ⟨⟨v5,rfl,va,vb,rfl,hva,hvb⟩,hb5⟩;have hb6:=below_drw hb5;have hA5:=HA.out.keep hb6;obtain ⟨⟨r0,s0⟩,t0⟩:=hA5.1 0 (by omega);obtain ⟨⟨r1,s1⟩,t1⟩:=hA5.1 1 (by omega);have HA5:=Lib.hid hA5;have HB6:=Lib.hid hb6;clear hA5)
     | fail))
   all_goals
    go_wp2_with fail
    refine bodyPost_ret (v:=.tuple #[.agg #[.int .u64 (va:Nat),.int .u64 (vb:Nat)],.int .u64 (IntKind.u64.wrap (IntKind.u64.wrap (y5 * 4294967296)+y4))]) (by simp [results,Tryz.results118,go_sem, *]) rfl ?_
    exact ⟨⟨_,_,rfl,va,vb,rfl,hva,hvb⟩,(HA5.out.2.2.2.2.setCell HG4.out _).setCell HG4.out _⟩
def WBox (W:World) (g:Nat):Prop:=∃ x y:Nat,W.cell? ⟨g,0,none⟩=some (.int .u64 (x:Nat))∧W.cell? ⟨g,1,none⟩=some (.int .u64 (y:Nat))∧x < 18446744073709551616∧y < 18446744073709551616
def ArF (W:World) (g:Nat):Prop:=((∃ x:Int,W.cell? ⟨g,0,none⟩=some (.int .u64 x))∧W.frozen? ⟨g,0,none⟩=false)∧((∃ x:Int,W.cell? ⟨g,1,none⟩=some (.int .u64 x))∧W.frozen? ⟨g,1,none⟩=false)∧g < W.heap.size
theorem arr_cut {P:Prop} {W W':World} (hb:Below W.heap.size W W') (g:Nat) (h:ArrI W g 2) (k:ArF W' g→P):P:=
 k ⟨(h.keep hb) 0 (by omega),(h.keep hb) 1 (by omega),(h.keep hb).lt (by omega)⟩
theorem arr_al {W:World} {g n:Nat} (h:ArrI W g n) (o:Obj):ArrI (W.alloc o) g n:=h.keep ((Below.refl _ _).alloc (Nat.le_refl _) _)
theorem arr_dr {W:World} {g n:Nat} (h:ArrI W g n):ArrI W.drew g n:=h.keep (Below.refl _ _).drew
theorem arr_nw (W:World) (g:Nat) (hg:W.heap.size=g) (x y:Int) (t:TypeId):ArrI (W.alloc (.cells #[.int .u64 x,.int .u64 y] t)) g 2:=by
 subst hg
 intro j hj
 rcases (by omega:j=0∨j=1) with rfl|rfl<;>exact ⟨⟨_,by simp [go_sem];try rfl⟩,by simp [go_sem]⟩
def WpO (w:World) (e:Ending) (w':World):Prop:=(∃ v t,e=.returned (.tuple #[v,.bool t])∧WideR v)∧Below w.heap.size w w'
theorem below_thenW {a b c:World} (h:Below a.heap.size a b) (g:Below b.heap.size b c):Below a.heap.size a c:=h.trans (g.mono h.size)
set_option maxRecDepth 100000 in
set_option maxHeartbeats 64000000 in
theorem wparse_calls (s:ByteArray) (hs:s.size≤39) (w:World):Calls Tryz.prog 116 #[.string s] w fun e w'=>WpO w e w':=by
 have CT:=Lib.hid (fun a b c W=>wtimes_calls a b c W)
 have CA:=Lib.hid (fun a b c d W=>wadd_calls a b c d W)
 have CX:=Lib.hid (fun a b h1 h2 W=>wtext_calls a b h1 h2 W)
 have HZ:Hid (WideR (.agg #[.int .u64 0,.int .u64 0])):=⟨0,0,rfl,by omega,by omega⟩
 have j39:¬ ((39:Int) < (s.size:Int)):=by omega
 go_enter Tryz.func116,Tryz.ntmps116
 go_upto_region 4 with fail
 obtain ⟨wb,hwb⟩:∃ W,W=(w.alloc (.cells #[.int .u64 0,.int .u64 0] 147)).alloc (.cells #[.int .u64 0,.int .u64 0] 147):=⟨_,rfl⟩
 rw [← hwb]
 obtain ⟨g2,hg2⟩:∃ g,w.heap.size=g:=⟨_,rfl⟩
 obtain ⟨g4,hg4⟩:∃ g,g2+1=g:=⟨_,rfl⟩
 have H0:Hid (WBox wb g4∧ArrI wb g4 2∧ArrI wb g2 2∧Below w.heap.size w wb):=by
  refine ⟨⟨0,0,?_,?_,by omega,by omega⟩,?_,?_,?_⟩
  ·rw [hwb,← hg4,← hg2];simp [go_sem]
  ·rw [hwb,← hg4,← hg2];simp [go_sem]
  ·rw [hwb,← hg4,← hg2];exact arr_nw _ _ (by simp) _ _ _
  ·rw [hwb,← hg2];exact arr_al (arr_nw _ _ rfl _ _ _) _
  ·rw [hwb];exact below_two _ _
 have HG2:Hid (w.heap.size≤g2):=by rw [hg2];exact Nat.le_refl _
 have HG4:Hid (w.heap.size≤g4):=by rw [hg2,← hg4];show _≤_;omega
 have HN24:Hid (g2≠g4):=by show _≠_;omega
 rw [hg2,hg4]
 clear hwb hg2 hg4
 go_wp2_with fail
 go_loopw [5,6,7,8,9] (fun i _ _ _ _ wr=>(∃ p:Nat,i=.int .i64 (p:Nat)∧p≤s.size)∧Hid (WBox wr g4∧ArrI wr g4 2∧ArrI wr g2 2∧Below w.heap.size w wr)) (fun i _ _ _ _ _=>s.size - (intOf i).toNat)
 case atStart=>exact ⟨⟨0,rfl,by omega⟩,H0⟩
 case round=>
  obtain ⟨⟨p,rfl,hp⟩,HA⟩:=hrel
  obtain ⟨x,y,c0,c1,hx,hy⟩:=HA.out.1
  obtain ⟨⟨z0,s0⟩,t0⟩:=HA.out.2.2.1 0 (by omega)
  obtain ⟨⟨z1,s1⟩,t1⟩:=HA.out.2.2.1 1 (by omega)
  have HXY:=Lib.hid (And.intro hx hy)
  clear hx hy
  by_cases hlt:p < s.size
  case neg=>
   have CX1:=Lib.hid (fun W=>CX.out x y HXY.out.1 HXY.out.2 W)
   go_wp2_with fail
   refine (CX1.out _).mono ?_
   rintro e w5 ⟨⟨b,rfl,hb1,hb2,hb3⟩,hb5⟩
   have d0:=cell_below hb5 c0
   have d1:=cell_below hb5 c1
   have hA2:=HA.out.2.2.1.keep hb5
   obtain ⟨⟨z0',s0'⟩,t0'⟩:=hA2 0 (by omega)
   obtain ⟨⟨z1',s1'⟩,t1'⟩:=hA2 1 (by omega)
   have HB5:=Lib.hid (HA.out.2.2.2.trans (hb5.mono HA.out.2.2.2.size))
   have n24:¬ g2=g4:=HN24.out
   clear hA2 hb5 c0 c1 s0 s1 t0 t1 hb1 hb2 hb3
   go_wp2_with fail
   ·refine bodyPost_ret (v:=.tuple #[.agg #[.int .u64 0,.int .u64 0],.bool false]) (by simp [results,Tryz.results116,go_sem, *]) rfl ?_
    exact ⟨⟨.agg #[.int .u64 0,.int .u64 0],false,rfl,HZ.out⟩,(HB5.out.setCell HG2.out _).setCell HG2.out _⟩
   ·refine bodyPost_ret (v:=.tuple #[.agg #[.int .u64 (x:Nat),.int .u64 (y:Nat)],.bool true]) (by simp [results,Tryz.results116,go_sem, *]) rfl ?_
    exact ⟨⟨_,_,rfl,x,y,rfl,HXY.out⟩,(HB5.out.setCell HG2.out _).setCell HG2.out _⟩
  have i1:(0:Int)≤(p:Int):=by omega
  have i2:(p:Int) < (s.size:Int):=by omega
  obtain ⟨cv,hcv⟩:∃ c,c=(s[p]'hlt).toNat:=⟨_,rfl⟩
  have e0:((s[p]'hlt).toNat:Int)=(cv:Int):=by rw [hcv]
  have hc256:cv < 256:=by rw [hcv];exact UInt8.toNat_lt _
  clear hcv
  by_cases h48:cv < 48
  ·have k1:(cv:Int) < 48:=by omega
   go_wp2_with fail
   refine bodyPost_ret (v:=.tuple #[.agg #[.int .u64 0,.int .u64 0],.bool false]) (by simp [results,Tryz.results116,go_sem, *]) rfl ?_
   exact ⟨⟨.agg #[.int .u64 0,.int .u64 0],false,rfl,HZ.out⟩,(HA.out.2.2.2.setCell HG2.out _).setCell HG2.out _⟩
  by_cases h57:57 < cv
  ·have k1:¬ (cv:Int) < 48:=by omega
   have k2:(57:Int) < (cv:Int):=by omega
   go_wp2_with fail
   refine bodyPost_ret (v:=.tuple #[.agg #[.int .u64 0,.int .u64 0],.bool false]) (by simp [results,Tryz.results116,go_sem, *]) rfl ?_
   exact ⟨⟨.agg #[.int .u64 0,.int .u64 0],false,rfl,HZ.out⟩,(HA.out.2.2.2.setCell HG2.out _).setCell HG2.out _⟩
  have k1:¬ (cv:Int) < 48:=by omega
  have k2:¬ (57:Int) < (cv:Int):=by omega
  obtain ⟨dv,hdv⟩:∃ d,d=cv - 48:=⟨_,rfl⟩
  have e3:IntKind.u8.wrap ((cv:Int) - 48)=(dv:Int):=by rw [IntKind.wrap_u8];omega
  have e4:IntKind.u64.wrap (dv:Int)=(dv:Int):=by rw [IntKind.wrap_u64];omega
  have CT1:=Lib.hid (fun W=>CT.out x y 10 W)
  clear hdv h48 h57
  go_wp2_with fail
  refine (CT1.out _).mono ?_
  rintro e w5 ⟨⟨v6,zo,rfl,a6,b6,rfl,ha6,hb6⟩,hb5⟩
  go_upto_region 10 with fail
  obtain ⟨w6,hw6⟩:∃ W,W=w5.alloc (.cells #[.int .u64 (a6:Nat),.int .u64 (b6:Nat)] 147):=⟨_,rfl⟩
  rw [← hw6]
  obtain ⟨g6,hg6⟩:∃ g,w5.heap.size=g:=⟨_,rfl⟩
  have k6:w6.cell? ⟨g6,0,none⟩=some (.int .u64 (a6:Nat)):=by rw [hw6,← hg6];simp [go_sem]
  have k6':w6.cell? ⟨g6,1,none⟩=some (.int .u64 (b6:Nat)):=by rw [hw6,← hg6];simp [go_sem]
  have h56:Below w5.heap.size w5 w6:=by rw [hw6];exact (Below.refl _ _).alloc (Nat.le_refl _) _
  have hw6b:Below wr.heap.size wr w6:=hb5.trans (h56.mono hb5.size)
  have HB6:Hid (ArrI w6 g4 2∧ArrI w6 g2 2∧Below w.heap.size w w6):=⟨HA.out.2.1.keep hw6b,HA.out.2.2.1.keep hw6b,HA.out.2.2.2.trans (hw6b.mono HA.out.2.2.2.size)⟩
  try rw [hg6]
  have l6:g6 < w6.heap.size:=by rw [hw6,← hg6];simp
  have HKS:Hid (∀ W,Below w6.heap.size w6 W→Hid (Below w6.heap.size w6 W)∧W.cell? ⟨g6,0,none⟩=some (.int .u64 (a6:Nat))∧W.cell? ⟨g6,1,none⟩=some (.int .u64 (b6:Nat))):=fun W h=>⟨h,cell_below h k6,cell_below h k6'⟩
  clear hw6 hg6 c0 c1 s0 s1 t0 t1 h56 hw6b hb5 k6 k6'
  have CA0:Hid (∀ W,Calls Tryz.prog 119 #[.agg #[.int .u64 (a6:Nat),.int .u64 (b6:Nat)],.agg #[.int .u64 0,.int .u64 (dv:Nat)]] W fun e w'=>(∃ v t,e=.returned (.tuple #[v,.bool t])∧WideR v)∧Below W.heap.size W w'):=fun W=>CA.out a6 b6 0 dv W
  go_cut [8,9] from 36 to 46 (fun p8 p9 W=>∃ g8 tb,p8=.pointer (some ⟨g8,0,none⟩)∧p9=.bool tb∧WBox W g8∧Below w6.heap.size w6 W)
  case first=>
   go_region_held3 (fun W=>Hid (Below w6.heap.size w6 W)∧W.cell? ⟨g6,0,none⟩=some (.int .u64 (a6:Nat))∧W.cell? ⟨g6,1,none⟩=some (.int .u64 (b6:Nat)))
    (((with_reducible refine HKS.out _ ?_);(repeat' (first|with_reducible assumption|with_reducible exact Below.refl _ _|with_reducible refine below_alZ ?_ (Nat.le_refl _) _|with_reducible refine Below.drew ?_|with_reducible refine Below.setCell ?_ (by dsimp only;simp;try omega) _))))
    ((first
     | (go_at_call 119;(with_reducible refine (CA0.out _).mono ?_);rintro e w8 ⟨⟨v8,tb,rfl,a8,b8,rfl,ha8,hb8⟩,hbb⟩;have hB8:Below w6.heap.size w6 w8:=below_thenW (by ((repeat' (first|with_reducible assumption|with_reducible exact Below.refl _ _|with_reducible refine below_alZ ?_ (Nat.le_refl _) _|with_reducible refine Below.drew ?_)))) hbb;(try ((with_reducible refine arr_cut hbb (w6.heap.size) ?_ (fun bz=>?_));(case _=>((repeat' (first|(with_reducible refine arr_nw _ _ ?_ _ _ _;first|with_reducible rfl|(simp;done))|with_reducible refine arr_al ?_ _|with_reducible refine arr_dr ?_));done));obtain ⟨⟨⟨_,_⟩,_⟩,⟨⟨_,_⟩,_⟩,_⟩:=bz)))
     | fail))
   all_goals
    go_wp2_with fail
    go_meet
    case rel=>exact ⟨_,tb,rfl,rfl,⟨a8,b8,by simp [go_sem, *],by simp [go_sem, *],ha8,hb8⟩,(‹Hid (Below w6.heap.size w6 _)∧_›).1.out⟩
  obtain ⟨g8,tb,rfl,rfl,hbox,hbc⟩:=hcut
  obtain ⟨a8,b8,c80,c81,ha8,hb8⟩:=hbox
  have hA4:=HB6.out.1.keep hbc
  have hA2:=HB6.out.2.1.keep hbc
  obtain ⟨⟨y0,s0⟩,t0⟩:=hA2 0 (by omega)
  obtain ⟨⟨y1,s1⟩,t1⟩:=hA2 1 (by omega)
  obtain ⟨⟨x0,c40⟩,f40⟩:=hA4 0 (by omega)
  obtain ⟨⟨x1,c41⟩,f41⟩:=hA4 1 (by omega)
  have HBC:=Lib.hid (HB6.out.2.2.trans (hbc.mono HB6.out.2.2.size))
  have HA24:=Lib.hid (And.intro hA4 hA2)
  have HC4:=Lib.hid (two_cells c40 c41 (.int .u64 (a8:Nat)) (.int .u64 (b8:Nat)))
  have HAB:=Lib.hid (And.intro ha8 hb8)
  clear hA4 hA2 hbc ha8 hb8 HKS CA0 l6
  by_cases hzo:0 < zo
  ·go_wp2_with fail
   refine bodyPost_ret (v:=.tuple #[.agg #[.int .u64 0,.int .u64 0],.bool false]) (by simp [results,Tryz.results116,go_sem, *]) rfl ?_
   exact ⟨⟨.agg #[.int .u64 0,.int .u64 0],false,rfl,HZ.out⟩,(HBC.out.setCell HG2.out _).setCell HG2.out _⟩
  cases tb with
  | true=>
   go_wp2_with fail
   refine bodyPost_ret (v:=.tuple #[.agg #[.int .u64 0,.int .u64 0],.bool false]) (by simp [results,Tryz.results116,go_sem, *]) rfl ?_
   exact ⟨⟨.agg #[.int .u64 0,.int .u64 0],false,rfl,HZ.out⟩,(HBC.out.setCell HG2.out _).setCell HG2.out _⟩
  | false=>
   have HN:Hid (WBox ((wc.setCell ⟨g4,0,none⟩ (.int .u64 (a8:Nat))).setCell ⟨g4,1,none⟩ (.int .u64 (b8:Nat))) g4∧ArrI ((wc.setCell ⟨g4,0,none⟩ (.int .u64 (a8:Nat))).setCell ⟨g4,1,none⟩ (.int .u64 (b8:Nat))) g4 2∧ArrI ((wc.setCell ⟨g4,0,none⟩ (.int .u64 (a8:Nat))).setCell ⟨g4,1,none⟩ (.int .u64 (b8:Nat))) g2 2∧Below w.heap.size w ((wc.setCell ⟨g4,0,none⟩ (.int .u64 (a8:Nat))).setCell ⟨g4,1,none⟩ (.int .u64 (b8:Nat)))):=
    ⟨⟨a8,b8,HC4.out.1,HC4.out.2.1,HAB.out⟩,(HA24.out.1.set _ _ _).set _ _ _,(HA24.out.2.set _ _ _).set _ _ _,(HBC.out.setCell HG4.out _).setCell HG4.out _⟩
   go_wp2_with fail
   go_roundw
   case rel=>exact ⟨⟨p+1,by simp,by omega⟩,HN⟩
   case measure=>simp [intOf];omega
theorem ten_size:(⟨#[49,48,48,48,48,48,48,48,48,48,48,48,48,48,48,48,48,48,48,48,48,48,48,48,48,48,48,48,48,48,48,48,48,48,48]⟩:ByteArray).size≤39:=by decide
set_option maxRecDepth 100000 in
set_option maxHeartbeats 4000000 in
theorem ten34_calls (w:World):Calls Tryz.prog 114 #[] w fun e w'=>(∃ v,e=.returned v∧WideR v)∧Below w.heap.size w w':=by
 have CP:=Lib.hid (fun W=>wparse_calls ⟨#[49,48,48,48,48,48,48,48,48,48,48,48,48,48,48,48,48,48,48,48,48,48,48,48,48,48,48,48,48,48,48,48,48,48,48]⟩ ten_size W)
 go_enter Tryz.func114,Tryz.ntmps114
 go_wp2_with fail
 refine (CP.out _).mono ?_
 rintro e w5 ⟨⟨v,t,rfl,a,b,rfl,ha,hb⟩,hb5⟩
 have hA:ArrI w5 w.heap.size 2:=(arr_nw w _ rfl 0 0 147).keep hb5
 obtain ⟨⟨y0,s0⟩,t0⟩:=hA 0 (by omega)
 obtain ⟨⟨y1,s1⟩,t1⟩:=hA 1 (by omega)
 have hl:w.heap.size < w5.heap.size:=hA.lt (by omega)
 have hB5:Below w.heap.size w w5:=((Below.refl _ _).alloc (Nat.le_refl _) _).trans (hb5.mono (by simp))
 have HB5:=Lib.hid hB5
 clear hA hB5 hb5
 go_wp2_with fail
 have hne:¬ w5.heap.size=w.heap.size:=by omega
 refine bodyPost_ret (v:=.agg #[.int .u64 (a:Nat),.int .u64 (b:Nat)]) (by simp [results,Tryz.results114,go_sem, *]) rfl ?_
 exact ⟨⟨_,rfl,a,b,rfl,ha,hb⟩,((HB5.out.setCell (Nat.le_refl _) _).setCell (Nat.le_refl _) _).alloc (by simp;omega) _⟩
def SpO (w:World) (e:Ending) (w':World):Prop:=(∃ (k:Int) (ng:Bool) (v:Value) (x:Int),e=.returned (.tuple #[.int .i64 k,.bool ng,v,.int .i64 x])∧(k=1∨k=2∨k=3)∧WideR v∧-6176≤x∧x≤10207)∧Below w.heap.size w w'
theorem wide0:WideR (.agg #[.int .u64 0,.int .u64 0]):=⟨0,0,rfl,by omega,by omega⟩
theorem and_lt (n k m:Nat) (hn:n < 18446744073709551616) (hm:2 ^ k≤18446744073709551616) (h:m=2 ^ k - 1):∃ x:Nat,bits BinOp.and IntKind.u64 (n:Int) (m:Int)=(x:Int)∧x < 2 ^ k:=by
 refine ⟨n % 2 ^ k,?_,Nat.mod_lt _ (Nat.pow_pos (by omega))⟩
 have:=u64_and_nat n m hn (by omega)
 rw [this,h,Nat.and_two_pow_sub_one_eq_mod]
theorem shr_f (h m:Nat) (hh:h < 18446744073709551616):∃ x:Nat,(h:Int) / (m:Int)=(x:Int)∧x < 18446744073709551616:=⟨h / m,by norm_cast,Nat.lt_of_le_of_lt (Nat.div_le_self _ _) hh⟩
theorem w_f (y:Nat) (h:y < 16384):IntKind.i64.wrap (y:Int)=(y:Int)∧wrap64 (y:Int)=(y:Int)∧IntKind.i64.wrap ((y:Int) - 6176)=(y:Int) - 6176∧Hid (-6176≤(y:Int) - 6176∧(y:Int) - 6176≤10207):=⟨IntWalk.i64_in _ (by omega),by unfold wrap64;omega,IntWalk.i64_in _ (by omega),by show _∧_;omega⟩
set_option maxRecDepth 100000 in
set_option maxHeartbeats 64000000 in
theorem dsplit_calls (h l:Nat) (hh:h < 18446744073709551616) (hl:l < 18446744073709551616) (w:World):Calls Tryz.prog 108 #[.int .u64 (h:Nat),.int .u64 (l:Nat)] w fun e w'=>SpO w e w':=by
 have CT:=Lib.hid (fun W=>ten34_calls W)
 have CC:=Lib.hid (fun a b c d W=>wcmp_calls a b c d W)
 obtain ⟨ng,hng⟩:∃ ng,((h:Int) / 9223372036854775808 == 1)=ng:=⟨_,rfl⟩
 obtain ⟨x1,P1,l1⟩:=shr_f h 288230376151711744 hh
 obtain ⟨x2,P2,l2⟩:=shr_f h 2305843009213693952 hh
 obtain ⟨x3,P3,l3⟩:=shr_f h 140737488355328 hh
 obtain ⟨x4,P4,l4⟩:=shr_f h 562949953421312 hh
 have p1:(h:Int) / 288230376151711744=(x1:Int):=P1
 clear P1
 have p2:(h:Int) / 2305843009213693952=(x2:Int):=P2
 clear P2
 have p3:(h:Int) / 140737488355328=(x3:Int):=P3
 clear P3
 have p4:(h:Int) / 562949953421312=(x4:Int):=P4
 clear P4
 obtain ⟨y1,Q1,-⟩:=and_lt x1 5 31 l1 (by decide) rfl
 obtain ⟨y2,Q2,-⟩:=and_lt x2 2 3 l2 (by decide) rfl
 obtain ⟨y3,Q3,B3⟩:=and_lt x3 14 16383 l3 (by decide) rfl
 obtain ⟨y4,Q4,B4⟩:=and_lt x4 14 16383 l4 (by decide) rfl
 obtain ⟨y5,Q5,B5⟩:=and_lt h 49 562949953421311 hh (by decide) rfl
 have q1:bits BinOp.and IntKind.u64 (x1:Int) 31=(y1:Int):=Q1
 clear Q1
 have q2:bits BinOp.and IntKind.u64 (x2:Int) 3=(y2:Int):=Q2
 clear Q2
 have q3:bits BinOp.and IntKind.u64 (x3:Int) 16383=(y3:Int):=Q3
 clear Q3
 have q4:bits BinOp.and IntKind.u64 (x4:Int) 16383=(y4:Int):=Q4
 clear Q4
 have q5:bits BinOp.and IntKind.u64 (h:Int) 562949953421311=(y5:Int):=Q5
 clear Q5
 have b3:y3 < 16384:=B3
 clear B3
 have b4:y4 < 16384:=B4
 clear B4
 have b5:y5 < 562949953421312:=B5
 clear B5
 obtain ⟨u3,w3,v3,H3⟩:=w_f y3 b3
 obtain ⟨u4,w4,v4,H4⟩:=w_f y4 b4
 have HB34:Hid (y3 < 16384∧y4 < 16384∧y5 < 562949953421312):=⟨b3,b4,b5⟩
 have HLL:=Lib.hid (And.intro hh hl)
 clear l1 l2 l3 l4 b3 b4 b5 hng hh hl
 by_cases h31:y1=31
 ·subst h31
  go_enter Tryz.func108,Tryz.ntmps108
  go_wp2_with fail
  refine bodyPost_ret (v:=.tuple #[.int .i64 3,.bool ((h:Int) / 9223372036854775808 == 1),.agg #[.int .u64 0,.int .u64 0],.int .i64 0]) (by simp [results,Tryz.results108,go_sem]) rfl ?_
  exact ⟨⟨_,_,_,_,rfl,.inr (.inr rfl),wide0,by omega,by omega⟩,(Below.refl _ _).alloc (Nat.le_refl _) _⟩
 have d31:((y1:Int) == 31)=false:=by simp only [beq_eq_false_iff_ne];exact fun e=>h31 (Int.ofNat_inj.1 e)
 by_cases h30:y1=30
 ·subst h30
  go_enter Tryz.func108,Tryz.ntmps108
  go_wp2_with fail
  refine bodyPost_ret (v:=.tuple #[.int .i64 2,.bool ((h:Int) / 9223372036854775808 == 1),.agg #[.int .u64 0,.int .u64 0],.int .i64 0]) (by simp [results,Tryz.results108,go_sem]) rfl ?_
  exact ⟨⟨_,_,_,_,rfl,.inr (.inl rfl),wide0,by omega,by omega⟩,(Below.refl _ _).alloc (Nat.le_refl _) _⟩
 have d30:((y1:Int) == 30)=false:=by simp only [beq_eq_false_iff_ne];exact fun e=>h30 (Int.ofNat_inj.1 e)
 by_cases h3:y2=3
 ·subst h3
  go_enter Tryz.func108,Tryz.ntmps108
  go_wp2_with fail
  refine bodyPost_ret (v:=.tuple #[.int .i64 1,.bool ((h:Int) / 9223372036854775808 == 1),.agg #[.int .u64 0,.int .u64 0],.int .i64 ((y3:Int) - 6176)]) (by simp [results,Tryz.results108,go_sem]) rfl ?_
  exact ⟨⟨_,_,_,_,rfl,.inl rfl,wide0,H3.out.1,H3.out.2⟩,(Below.refl _ _).alloc (Nat.le_refl _) _⟩
 have d3:((y2:Int) == 3)=false:=by simp only [beq_eq_false_iff_ne];exact fun e=>h3 (Int.ofNat_inj.1 e)
 clear h31 h30 h3
 go_enter Tryz.func108,Tryz.ntmps108
 go_upto_region 9 with fail
 obtain ⟨wb,hwb⟩:∃ W,W=(w.alloc (.cells #[.int .u64 0,.int .u64 0] 147)).alloc (.cells #[.int .u64 (y5:Nat),.int .u64 (l:Nat)] 147):=⟨_,rfl⟩
 rw [← hwb]
 obtain ⟨g6,hg6⟩:∃ g,w.heap.size=g:=⟨_,rfl⟩
 obtain ⟨g9,hg9⟩:∃ g,g6+1=g:=⟨_,rfl⟩
 have k9:wb.cell? ⟨g9,0,none⟩=some (.int .u64 (y5:Nat)):=by rw [hwb,← hg9,← hg6];simp [go_sem]
 have k9':wb.cell? ⟨g9,1,none⟩=some (.int .u64 (l:Nat)):=by rw [hwb,← hg9,← hg6];simp [go_sem]
 have A9:ArrI wb g9 2:=by rw [hwb,← hg9,← hg6];exact arr_nw _ _ (by simp) _ _ _
 have A6:ArrI wb g6 2:=by rw [hwb,← hg6];exact arr_al (arr_nw _ _ rfl _ _ _) _
 have hwB:Below w.heap.size w wb:=by rw [hwb];exact below_two _ _
 have HP:=Lib.hid (show ArrI wb g9 2∧ArrI wb g6 2∧Below w.heap.size w wb∧w.heap.size≤g6∧w.heap.size≤g9∧g6≠g9 from ⟨A9,A6,hwB,by rw [hg6];exact Nat.le_refl _,by rw [← hg9,hg6];exact Nat.le_succ _,by rw [← hg9];exact Nat.ne_of_lt (Nat.lt_succ_self _)⟩)
 have l9:g9 < wb.heap.size:=A9.lt (by omega)
 rw [hg6,hg9]
 have HKS:Hid (∀ W,Below wb.heap.size wb W→Hid (Below wb.heap.size wb W)∧W.cell? ⟨g9,0,none⟩=some (.int .u64 (y5:Nat))∧W.cell? ⟨g9,1,none⟩=some (.int .u64 (l:Nat))):=fun W h=>⟨h,cell_below h k9,cell_below h k9'⟩
 clear hwb hg6 hg9 A9 A6 hwB
 go_cut [46] from 43 to 46 (fun p W=>(∃ t,p=.bool t)∧Below wb.heap.size wb W)
 case first=>
  go_region_held3 (fun W=>Hid (Below wb.heap.size wb W)∧W.cell? ⟨g9,0,none⟩=some (.int .u64 (y5:Nat))∧W.cell? ⟨g9,1,none⟩=some (.int .u64 (l:Nat)))
   (((with_reducible refine HKS.out _ ?_);((repeat' (first|with_reducible assumption|with_reducible exact Below.refl _ _|with_reducible refine below_alZ ?_ (Nat.le_refl _) _|with_reducible refine Below.drew ?_)))))
   ((first
    | (go_at_call 114;(with_reducible refine (CT.out _).mono ?_);rintro e w7 ⟨⟨v7,rfl,a7,b7,rfl,ha7,hb7⟩,hbb⟩;have hB7:Below wb.heap.size wb w7:=below_thenW (by ((repeat' (first|with_reducible assumption|with_reducible exact Below.refl _ _|with_reducible refine below_alZ ?_ (Nat.le_refl _) _|with_reducible refine Below.drew ?_)))) hbb;clear hbb)
    | (go_at_call 113;(with_reducible refine (CC.out _ _ _ _ _).mono ?_);rintro e w8 ⟨⟨n8,rfl⟩,hbb⟩;have hB8:Below wb.heap.size wb w8:=below_thenW (by ((repeat' (first|with_reducible assumption|with_reducible exact Below.refl _ _|with_reducible refine below_alZ ?_ (Nat.le_refl _) _|with_reducible refine Below.drew ?_)))) hbb;clear hbb)
    | fail))
  all_goals
   go_wp2_with fail
   go_meet
   case rel=>exact ⟨⟨_,rfl⟩,(‹Hid (Below wb.heap.size wb _)∧_›).1.out⟩
 obtain ⟨⟨tc,rfl⟩,hbc⟩:=hcut
 have HP2:=Lib.hid (show ArrI wc g9 2∧ArrI wc g6 2∧Below w.heap.size w wc from ⟨HP.out.1.keep hbc,HP.out.2.1.keep hbc,HP.out.2.2.1.trans (hbc.mono HP.out.2.2.1.size)⟩)
 have c0:=cell_below hbc k9
 have c1:=cell_below hbc k9'
 obtain ⟨-,f0⟩:=HP2.out.1 0 (by omega)
 obtain ⟨-,f1⟩:=HP2.out.1 1 (by omega)
 have HBX:Hid (WBox wc g9):=⟨y5,l,c0,c1,Nat.lt_trans HB34.out.2.2 (by decide),HLL.out.2⟩
 obtain ⟨wa,rfl⟩:∃ W:World,W=wc:=⟨_,rfl⟩
 clear HKS hbc k9 k9'
 go_upto_if 46 with fail
 go_cut [9] from 47 to 47 (fun p W=>p=.pointer (some ⟨g9,0,none⟩)∧WBox W g9∧ArrI W g6 2∧Below w.heap.size w W)
 case first=>
  cases tc with
  | true=>
   have HC2:=Lib.hid (two_cells c0 c1 (.int .u64 0) (.int .u64 0))
   go_wp2_with fail
   go_meet
   case rel=>exact ⟨rfl,⟨0,0,HC2.out.1,HC2.out.2.1,by omega,by omega⟩,(HP2.out.2.1.set _ _ _).set _ _ _,(HP2.out.2.2.setCell HP.out.2.2.2.2.1 _).setCell HP.out.2.2.2.2.1 _⟩
  | false=>
   go_wp2_with fail
   go_meet
   case rel=>exact ⟨rfl,HBX.out,HP2.out.2.1,HP2.out.2.2⟩
 obtain ⟨rfl,⟨a,b,k0,k1,ha,hb⟩,hA6,hbc⟩:=hcut
 obtain ⟨⟨z0,s0⟩,t0⟩:=hA6 0 (by omega)
 obtain ⟨⟨z1,s1⟩,t1⟩:=hA6 1 (by omega)
 have n69:¬ g6=g9:=HP.out.2.2.2.2.2
 have n96:¬ g9=g6:=fun e=>n69 e.symm
 clear c0 c1 f0 f1 hA6
 go_upto_region 11 with fail
 have HBC:=Lib.hid hbc
 have HAB:=Lib.hid (And.intro ha hb)
 clear hbc ha hb p1 p2 p3 d31 d30 d3 q1 q2 q3 q5 w3 v3
 go_region_held3 (fun W=>Hid True∧W.cell? ⟨g9,0,none⟩=some (.int .u64 (a:Nat))∧W.cell? ⟨g9,1,none⟩=some (.int .u64 (b:Nat)))
  (first|exact ⟨trivial,by simp [go_sem, *],by simp [go_sem, *]⟩)
  (fail)
 all_goals
  go_wp2_with fail
  refine bodyPost_ret (v:=.tuple #[.int .i64 1,.bool ((h:Int) / 9223372036854775808 == 1),.agg #[.int .u64 (a:Nat),.int .u64 (b:Nat)],.int .i64 ((y4:Int) - 6176)]) (by simp [results,Tryz.results108,go_sem, *]) rfl ?_
  exact ⟨⟨_,_,_,_,rfl,.inl rfl,⟨a,b,rfl,HAB.out⟩,H4.out.1,H4.out.2⟩,by
   (repeat' (first|with_reducible exact HBC.out|with_reducible refine Below.drew ?_|with_reducible refine Below.setCell ?_ HP.out.2.2.2.1 _))⟩
def JnO (w:World) (e:Ending) (w':World):Prop:=(∃ (a b:Nat) (t:Bool),e=.returned (.tuple #[.int .u64 (a:Nat),.int .u64 (b:Nat),.bool t]))∧Below w.heap.size w w'
set_option maxRecDepth 100000 in
set_option maxHeartbeats 64000000 in
theorem djoin_calls (ng:Bool) (a b:Nat) (ha:a < 18446744073709551616) (hb:b < 18446744073709551616) (x:Int) (h1:-7000≤x) (h2:x≤20000) (w:World):Calls Tryz.prog 109 #[.bool ng,.agg #[.int .u64 (a:Nat),.int .u64 (b:Nat)],.int .i64 x] w fun e w'=>JnO w e w':=by
 have CT:=Lib.hid (fun W=>ten34_calls W)
 have CC:=Lib.hid (fun a b c d W=>wcmp_calls a b c d W)
 go_enter Tryz.func109,Tryz.ntmps109
 go_upto_region 1 with fail
 obtain ⟨wb,hwb⟩:∃ W,W=w.alloc (.cells #[.int .u64 (a:Nat),.int .u64 (b:Nat)] 147):=⟨_,rfl⟩
 rw [← hwb]
 obtain ⟨g4,hg4⟩:∃ g,w.heap.size=g:=⟨_,rfl⟩
 have k4:wb.cell? ⟨g4,0,none⟩=some (.int .u64 (a:Nat)):=by rw [hwb,← hg4];simp [go_sem]
 have k4':wb.cell? ⟨g4,1,none⟩=some (.int .u64 (b:Nat)):=by rw [hwb,← hg4];simp [go_sem]
 have HB0:Hid (Below w.heap.size w wb):=by rw [hwb];exact (Below.refl _ _).alloc (Nat.le_refl _) _
 have l4:g4 < wb.heap.size:=by rw [hwb,← hg4];simp
 rw [hg4]
 have HKS:Hid (∀ W,Below wb.heap.size wb W→Hid (Below wb.heap.size wb W)∧W.cell? ⟨g4,0,none⟩=some (.int .u64 (a:Nat))∧W.cell? ⟨g4,1,none⟩=some (.int .u64 (b:Nat))):=fun W h=>⟨h,cell_below h k4,cell_below h k4'⟩
 clear hwb hg4
 go_cut [21] from 10 to 21 (fun p W=>(∃ t,p=.bool t)∧Below wb.heap.size wb W)
 case first=>
  refine wp_region_held_drew (S:=(fun W=>Hid (Below wb.heap.size wb W)∧W.cell? ⟨g4,0,none⟩=some (.int .u64 (a:Nat))∧W.cell? ⟨g4,1,none⟩=some (.int .u64 (b:Nat)))) (by kernel_rfl) ?hSA (fun hHeld=>?restA)
  case hSA=>exact HKS.out _ (Below.refl _ _).drew
  refine wpAnyH_take (i:=0) (oi:=_) (v:=?vv1) rfl (by kernel_rfl) (by kernel_rfl) (by kernel_rfl) (fun _ _ _ h=>h) (Or.inl ⟨by rfl,?hy1⟩) (by assumption) ?rest1
  case hy1=>(intro w hSw;(try dsimp only at hSw);go_simp;try with_reducible rfl)
  (try simp only [Act.put,List.setIfInBounds_toArray,List.set_cons_zero,List.set_cons_succ,List.getElem_toArray,List.getElem_cons_succ,List.getElem_cons_zero])
  refine wpAnyH_ready (rs:=[1]) (by kernel_rfl) (by simp) ?_
  refine AllReadyH.cons (o:=_) rfl (fun K hK=>?_) AllReadyH.nil
  go_simp
  go_at_call 114
  refine (CT.out _).mono ?_
  rintro e w7 ⟨⟨v7,rfl,a7,b7,rfl,ha7,hb7⟩,hbb⟩
  have hB7:Below wb.heap.size wb w7:=below_thenW (by ((repeat' (first|with_reducible assumption|with_reducible exact Below.refl _ _|with_reducible refine below_alZ ?_ (Nat.le_refl _) _|with_reducible refine Below.drew ?_)))) hbb
  clear hbb
  refine hK.out _ _ ?hS2 (fun hHeld=>?rest2)
  case hS2=>(with_reducible refine HKS.out _ ?_;((repeat' (first|with_reducible assumption|with_reducible exact Below.refl _ _|with_reducible refine below_alZ ?_ (Nat.le_refl _) _|with_reducible refine Below.drew ?_))))
  clear hK K
  (try simp only [Act.put,List.setIfInBounds_toArray,List.set_cons_zero,List.set_cons_succ,List.getElem_toArray,List.getElem_cons_succ,List.getElem_cons_zero])
  refine wpAnyH_ready (rs:=[2]) (by kernel_rfl) (by simp) ?_
  refine AllReadyH.cons (o:=_) rfl (fun K hK=>?_) AllReadyH.nil
  go_simp
  go_at_call 113
  refine (CC.out _ _ _ _ _).mono ?_
  rintro e w8 ⟨⟨n8,rfl⟩,hbb⟩
  have hB8:Below wb.heap.size wb w8:=below_thenW (by ((repeat' (first|with_reducible assumption|with_reducible exact Below.refl _ _|with_reducible refine below_alZ ?_ (Nat.le_refl _) _|with_reducible refine Below.drew ?_)))) hbb
  clear hbb
  refine hK.out _ _ ?hS3 (fun hHeld=>?rest3)
  case hS3=>(with_reducible refine HKS.out _ ?_;((repeat' (first|with_reducible assumption|with_reducible exact Below.refl _ _|with_reducible refine below_alZ ?_ (Nat.le_refl _) _|with_reducible refine Below.drew ?_))))
  clear hK K
  (try simp only [Act.put,List.setIfInBounds_toArray,List.set_cons_zero,List.set_cons_succ,List.getElem_toArray,List.getElem_cons_succ,List.getElem_cons_zero])
  by_cases hn:0≤n8
  ·have dn:decide (0≤n8)=true:=decide_eq_true hn
   clear hn
   refine wpAnyH_take (i:=3) (oi:=_) (v:=?vv4) rfl (by kernel_rfl) (by kernel_rfl) (by kernel_rfl) (fun _ _ _ h=>h) (Or.inl ⟨by rfl,?hy4⟩) (by assumption) ?rest4
   case hy4=>(intro w hSw;(try dsimp only at hSw);go_simp;try with_reducible rfl)
   (try simp only [Act.put,List.setIfInBounds_toArray,List.set_cons_zero,List.set_cons_succ,List.getElem_toArray,List.getElem_cons_succ,List.getElem_cons_zero])
   refine wpAnyH_take (i:=4) (oi:=_) (v:=?vv5) rfl (by kernel_rfl) (by kernel_rfl) (by kernel_rfl) (fun _ _ _ h=>h) (Or.inl ⟨by rfl,?hy5⟩) (by assumption) ?rest5
   case hy5=>(intro w hSw;(try dsimp only at hSw);go_simp;try with_reducible rfl)
   (try simp only [Act.put,List.setIfInBounds_toArray,List.set_cons_zero,List.set_cons_succ,List.getElem_toArray,List.getElem_cons_succ,List.getElem_cons_zero])
   refine wpAnyH_take (i:=5) (oi:=_) (v:=undef) rfl (by kernel_rfl) (by kernel_rfl) (by kernel_rfl) (fun _ _ _ h=>h) (Or.inr ⟨by rfl,rfl⟩) (by assumption) ?rest6
   (try simp only [Act.put,List.setIfInBounds_toArray,List.set_cons_zero,List.set_cons_succ,List.getElem_toArray,List.getElem_cons_succ,List.getElem_cons_zero])
   refine wpAnyH_take (i:=6) (oi:=_) (v:=undef) rfl (by kernel_rfl) (by kernel_rfl) (by kernel_rfl) (fun _ _ _ h=>h) (Or.inr ⟨by rfl,rfl⟩) (by assumption) ?rest7
   (try simp only [Act.put,List.setIfInBounds_toArray,List.set_cons_zero,List.set_cons_succ,List.getElem_toArray,List.getElem_cons_succ,List.getElem_cons_zero])
   refine wpAnyH_take (i:=7) (oi:=_) (v:=?vv8) rfl (by kernel_rfl) (by kernel_rfl) (by kernel_rfl) (fun _ _ _ h=>h) (Or.inl ⟨by rfl,?hy8⟩) (by assumption) ?rest8
   case hy8=>(intro w hSw;(try dsimp only at hSw);go_simp;try with_reducible rfl)
   (try simp only [Act.put,List.setIfInBounds_toArray,List.set_cons_zero,List.set_cons_succ,List.getElem_toArray,List.getElem_cons_succ,List.getElem_cons_zero])
   refine wpAnyH_take (i:=8) (oi:=_) (v:=?vv9) rfl (by kernel_rfl) (by kernel_rfl) (by kernel_rfl) (fun _ _ _ h=>h) (Or.inl ⟨by rfl,?hy9⟩) (by assumption) ?rest9
   case hy9=>(intro w hSw;(try dsimp only at hSw);go_simp;try with_reducible rfl)
   (try simp only [Act.put,List.setIfInBounds_toArray,List.set_cons_zero,List.set_cons_succ,List.getElem_toArray,List.getElem_cons_succ,List.getElem_cons_zero])
   refine wpAnyH_take (i:=9) (oi:=_) (v:=undef) rfl (by kernel_rfl) (by kernel_rfl) (by kernel_rfl) (fun _ _ _ h=>h) (Or.inr ⟨by rfl,rfl⟩) (by assumption) ?rest10
   (try simp only [Act.put,List.setIfInBounds_toArray,List.set_cons_zero,List.set_cons_succ,List.getElem_toArray,List.getElem_cons_succ,List.getElem_cons_zero])
   refine wpAnyH_take (i:=10) (oi:=_) (v:=undef) rfl (by kernel_rfl) (by kernel_rfl) (by kernel_rfl) (fun _ _ _ h=>h) (Or.inr ⟨by rfl,rfl⟩) (by assumption) ?rest11
   (try simp only [Act.put,List.setIfInBounds_toArray,List.set_cons_zero,List.set_cons_succ,List.getElem_toArray,List.getElem_cons_succ,List.getElem_cons_zero])
   refine wpAnyH_take (i:=11) (oi:=_) (v:=?vv12) rfl (by kernel_rfl) (by kernel_rfl) (by kernel_rfl) (fun _ _ _ h=>h) (Or.inl ⟨by rfl,?hy12⟩) (by assumption) ?rest12
   case hy12=>(intro w hSw;(try dsimp only at hSw);go_simp;try with_reducible rfl)
   (try simp only [Act.put,List.setIfInBounds_toArray,List.set_cons_zero,List.set_cons_succ,List.getElem_toArray,List.getElem_cons_succ,List.getElem_cons_zero])
   refine wpAnyH_done (by kernel_rfl) ?_ _
   go_wp2_with fail
   go_meet
   case rel=>exact ⟨⟨_,rfl⟩,by (repeat' (first|with_reducible assumption|with_reducible refine Below.drew ?_))⟩
  by_cases hx1:x < -6176
  ·have dx1:decide (x < -6176)=true:=decide_eq_true hx1
   have dn:decide (0≤n8)=false:=decide_eq_false hn
   clear hn
   refine wpAnyH_take (i:=3) (oi:=_) (v:=?vv13) rfl (by kernel_rfl) (by kernel_rfl) (by kernel_rfl) (fun _ _ _ h=>h) (Or.inl ⟨by rfl,?hy13⟩) (by assumption) ?rest13
   case hy13=>(intro w hSw;(try dsimp only at hSw);go_simp;try with_reducible rfl)
   (try simp only [Act.put,List.setIfInBounds_toArray,List.set_cons_zero,List.set_cons_succ,List.getElem_toArray,List.getElem_cons_succ,List.getElem_cons_zero])
   refine wpAnyH_take (i:=4) (oi:=_) (v:=?vv14) rfl (by kernel_rfl) (by kernel_rfl) (by kernel_rfl) (fun _ _ _ h=>h) (Or.inl ⟨by rfl,?hy14⟩) (by assumption) ?rest14
   case hy14=>(intro w hSw;(try dsimp only at hSw);go_simp;try with_reducible rfl)
   (try simp only [Act.put,List.setIfInBounds_toArray,List.set_cons_zero,List.set_cons_succ,List.getElem_toArray,List.getElem_cons_succ,List.getElem_cons_zero])
   refine wpAnyH_take (i:=5) (oi:=_) (v:=?vv15) rfl (by kernel_rfl) (by kernel_rfl) (by kernel_rfl) (fun _ _ _ h=>h) (Or.inl ⟨by rfl,?hy15⟩) (by assumption) ?rest15
   case hy15=>(intro w hSw;(try dsimp only at hSw);go_simp;try with_reducible rfl)
   (try simp only [Act.put,List.setIfInBounds_toArray,List.set_cons_zero,List.set_cons_succ,List.getElem_toArray,List.getElem_cons_succ,List.getElem_cons_zero])
   refine wpAnyH_take (i:=6) (oi:=_) (v:=?vv16) rfl (by kernel_rfl) (by kernel_rfl) (by kernel_rfl) (fun _ _ _ h=>h) (Or.inl ⟨by rfl,?hy16⟩) (by assumption) ?rest16
   case hy16=>(intro w hSw;(try dsimp only at hSw);go_simp;try with_reducible rfl)
   (try simp only [Act.put,List.setIfInBounds_toArray,List.set_cons_zero,List.set_cons_succ,List.getElem_toArray,List.getElem_cons_succ,List.getElem_cons_zero])
   refine wpAnyH_take (i:=7) (oi:=_) (v:=?vv17) rfl (by kernel_rfl) (by kernel_rfl) (by kernel_rfl) (fun _ _ _ h=>h) (Or.inl ⟨by rfl,?hy17⟩) (by assumption) ?rest17
   case hy17=>(intro w hSw;(try dsimp only at hSw);go_simp;try with_reducible rfl)
   (try simp only [Act.put,List.setIfInBounds_toArray,List.set_cons_zero,List.set_cons_succ,List.getElem_toArray,List.getElem_cons_succ,List.getElem_cons_zero])
   refine wpAnyH_take (i:=8) (oi:=_) (v:=?vv18) rfl (by kernel_rfl) (by kernel_rfl) (by kernel_rfl) (fun _ _ _ h=>h) (Or.inl ⟨by rfl,?hy18⟩) (by assumption) ?rest18
   case hy18=>(intro w hSw;(try dsimp only at hSw);go_simp;try with_reducible rfl)
   (try simp only [Act.put,List.setIfInBounds_toArray,List.set_cons_zero,List.set_cons_succ,List.getElem_toArray,List.getElem_cons_succ,List.getElem_cons_zero])
   refine wpAnyH_take (i:=9) (oi:=_) (v:=undef) rfl (by kernel_rfl) (by kernel_rfl) (by kernel_rfl) (fun _ _ _ h=>h) (Or.inr ⟨by rfl,rfl⟩) (by assumption) ?rest19
   (try simp only [Act.put,List.setIfInBounds_toArray,List.set_cons_zero,List.set_cons_succ,List.getElem_toArray,List.getElem_cons_succ,List.getElem_cons_zero])
   refine wpAnyH_take (i:=10) (oi:=_) (v:=undef) rfl (by kernel_rfl) (by kernel_rfl) (by kernel_rfl) (fun _ _ _ h=>h) (Or.inr ⟨by rfl,rfl⟩) (by assumption) ?rest20
   (try simp only [Act.put,List.setIfInBounds_toArray,List.set_cons_zero,List.set_cons_succ,List.getElem_toArray,List.getElem_cons_succ,List.getElem_cons_zero])
   refine wpAnyH_take (i:=11) (oi:=_) (v:=?vv21) rfl (by kernel_rfl) (by kernel_rfl) (by kernel_rfl) (fun _ _ _ h=>h) (Or.inl ⟨by rfl,?hy21⟩) (by assumption) ?rest21
   case hy21=>(intro w hSw;(try dsimp only at hSw);go_simp;try with_reducible rfl)
   (try simp only [Act.put,List.setIfInBounds_toArray,List.set_cons_zero,List.set_cons_succ,List.getElem_toArray,List.getElem_cons_succ,List.getElem_cons_zero])
   refine wpAnyH_done (by kernel_rfl) ?_ _
   go_wp2_with fail
   go_meet
   case rel=>exact ⟨⟨_,rfl⟩,by (repeat' (first|with_reducible assumption|with_reducible refine Below.drew ?_))⟩
  have dx1:decide (x < -6176)=false:=decide_eq_false hx1
  by_cases hx2:6111 < x
  ·have dx2:decide (6111 < x)=true:=decide_eq_true hx2
   have dn:decide (0≤n8)=false:=decide_eq_false hn
   clear hn
   refine wpAnyH_take (i:=3) (oi:=_) (v:=?vv22) rfl (by kernel_rfl) (by kernel_rfl) (by kernel_rfl) (fun _ _ _ h=>h) (Or.inl ⟨by rfl,?hy22⟩) (by assumption) ?rest22
   case hy22=>(intro w hSw;(try dsimp only at hSw);go_simp;try with_reducible rfl)
   (try simp only [Act.put,List.setIfInBounds_toArray,List.set_cons_zero,List.set_cons_succ,List.getElem_toArray,List.getElem_cons_succ,List.getElem_cons_zero])
   refine wpAnyH_take (i:=4) (oi:=_) (v:=?vv23) rfl (by kernel_rfl) (by kernel_rfl) (by kernel_rfl) (fun _ _ _ h=>h) (Or.inl ⟨by rfl,?hy23⟩) (by assumption) ?rest23
   case hy23=>(intro w hSw;(try dsimp only at hSw);go_simp;try with_reducible rfl)
   (try simp only [Act.put,List.setIfInBounds_toArray,List.set_cons_zero,List.set_cons_succ,List.getElem_toArray,List.getElem_cons_succ,List.getElem_cons_zero])
   refine wpAnyH_take (i:=5) (oi:=_) (v:=?vv24) rfl (by kernel_rfl) (by kernel_rfl) (by kernel_rfl) (fun _ _ _ h=>h) (Or.inl ⟨by rfl,?hy24⟩) (by assumption) ?rest24
   case hy24=>(intro w hSw;(try dsimp only at hSw);go_simp;try with_reducible rfl)
   (try simp only [Act.put,List.setIfInBounds_toArray,List.set_cons_zero,List.set_cons_succ,List.getElem_toArray,List.getElem_cons_succ,List.getElem_cons_zero])
   refine wpAnyH_take (i:=6) (oi:=_) (v:=?vv25) rfl (by kernel_rfl) (by kernel_rfl) (by kernel_rfl) (fun _ _ _ h=>h) (Or.inl ⟨by rfl,?hy25⟩) (by assumption) ?rest25
   case hy25=>(intro w hSw;(try dsimp only at hSw);go_simp;try with_reducible rfl)
   (try simp only [Act.put,List.setIfInBounds_toArray,List.set_cons_zero,List.set_cons_succ,List.getElem_toArray,List.getElem_cons_succ,List.getElem_cons_zero])
   refine wpAnyH_take (i:=7) (oi:=_) (v:=?vv26) rfl (by kernel_rfl) (by kernel_rfl) (by kernel_rfl) (fun _ _ _ h=>h) (Or.inl ⟨by rfl,?hy26⟩) (by assumption) ?rest26
   case hy26=>(intro w hSw;(try dsimp only at hSw);go_simp;try with_reducible rfl)
   (try simp only [Act.put,List.setIfInBounds_toArray,List.set_cons_zero,List.set_cons_succ,List.getElem_toArray,List.getElem_cons_succ,List.getElem_cons_zero])
   refine wpAnyH_take (i:=8) (oi:=_) (v:=?vv27) rfl (by kernel_rfl) (by kernel_rfl) (by kernel_rfl) (fun _ _ _ h=>h) (Or.inl ⟨by rfl,?hy27⟩) (by assumption) ?rest27
   case hy27=>(intro w hSw;(try dsimp only at hSw);go_simp;try with_reducible rfl)
   (try simp only [Act.put,List.setIfInBounds_toArray,List.set_cons_zero,List.set_cons_succ,List.getElem_toArray,List.getElem_cons_succ,List.getElem_cons_zero])
   refine wpAnyH_take (i:=9) (oi:=_) (v:=?vv28) rfl (by kernel_rfl) (by kernel_rfl) (by kernel_rfl) (fun _ _ _ h=>h) (Or.inl ⟨by rfl,?hy28⟩) (by assumption) ?rest28
   case hy28=>(intro w hSw;(try dsimp only at hSw);go_simp;try with_reducible rfl)
   (try simp only [Act.put,List.setIfInBounds_toArray,List.set_cons_zero,List.set_cons_succ,List.getElem_toArray,List.getElem_cons_succ,List.getElem_cons_zero])
   refine wpAnyH_take (i:=10) (oi:=_) (v:=?vv29) rfl (by kernel_rfl) (by kernel_rfl) (by kernel_rfl) (fun _ _ _ h=>h) (Or.inl ⟨by rfl,?hy29⟩) (by assumption) ?rest29
   case hy29=>(intro w hSw;(try dsimp only at hSw);go_simp;try with_reducible rfl)
   (try simp only [Act.put,List.setIfInBounds_toArray,List.set_cons_zero,List.set_cons_succ,List.getElem_toArray,List.getElem_cons_succ,List.getElem_cons_zero])
   refine wpAnyH_take (i:=11) (oi:=_) (v:=?vv30) rfl (by kernel_rfl) (by kernel_rfl) (by kernel_rfl) (fun _ _ _ h=>h) (Or.inl ⟨by rfl,?hy30⟩) (by assumption) ?rest30
   case hy30=>(intro w hSw;(try dsimp only at hSw);go_simp;try with_reducible rfl)
   (try simp only [Act.put,List.setIfInBounds_toArray,List.set_cons_zero,List.set_cons_succ,List.getElem_toArray,List.getElem_cons_succ,List.getElem_cons_zero])
   refine wpAnyH_done (by kernel_rfl) ?_ _
   go_wp2_with fail
   go_meet
   case rel=>exact ⟨⟨_,rfl⟩,by (repeat' (first|with_reducible assumption|with_reducible refine Below.drew ?_))⟩
  ·have dx2:decide (6111 < x)=false:=decide_eq_false hx2
   have dn:decide (0≤n8)=false:=decide_eq_false hn
   clear hn
   refine wpAnyH_take (i:=3) (oi:=_) (v:=?vv31) rfl (by kernel_rfl) (by kernel_rfl) (by kernel_rfl) (fun _ _ _ h=>h) (Or.inl ⟨by rfl,?hy31⟩) (by assumption) ?rest31
   case hy31=>(intro w hSw;(try dsimp only at hSw);go_simp;try with_reducible rfl)
   (try simp only [Act.put,List.setIfInBounds_toArray,List.set_cons_zero,List.set_cons_succ,List.getElem_toArray,List.getElem_cons_succ,List.getElem_cons_zero])
   refine wpAnyH_take (i:=4) (oi:=_) (v:=?vv32) rfl (by kernel_rfl) (by kernel_rfl) (by kernel_rfl) (fun _ _ _ h=>h) (Or.inl ⟨by rfl,?hy32⟩) (by assumption) ?rest32
   case hy32=>(intro w hSw;(try dsimp only at hSw);go_simp;try with_reducible rfl)
   (try simp only [Act.put,List.setIfInBounds_toArray,List.set_cons_zero,List.set_cons_succ,List.getElem_toArray,List.getElem_cons_succ,List.getElem_cons_zero])
   refine wpAnyH_take (i:=5) (oi:=_) (v:=?vv33) rfl (by kernel_rfl) (by kernel_rfl) (by kernel_rfl) (fun _ _ _ h=>h) (Or.inl ⟨by rfl,?hy33⟩) (by assumption) ?rest33
   case hy33=>(intro w hSw;(try dsimp only at hSw);go_simp;try with_reducible rfl)
   (try simp only [Act.put,List.setIfInBounds_toArray,List.set_cons_zero,List.set_cons_succ,List.getElem_toArray,List.getElem_cons_succ,List.getElem_cons_zero])
   refine wpAnyH_take (i:=6) (oi:=_) (v:=?vv34) rfl (by kernel_rfl) (by kernel_rfl) (by kernel_rfl) (fun _ _ _ h=>h) (Or.inl ⟨by rfl,?hy34⟩) (by assumption) ?rest34
   case hy34=>(intro w hSw;(try dsimp only at hSw);go_simp;try with_reducible rfl)
   (try simp only [Act.put,List.setIfInBounds_toArray,List.set_cons_zero,List.set_cons_succ,List.getElem_toArray,List.getElem_cons_succ,List.getElem_cons_zero])
   refine wpAnyH_take (i:=7) (oi:=_) (v:=?vv35) rfl (by kernel_rfl) (by kernel_rfl) (by kernel_rfl) (fun _ _ _ h=>h) (Or.inl ⟨by rfl,?hy35⟩) (by assumption) ?rest35
   case hy35=>(intro w hSw;(try dsimp only at hSw);go_simp;try with_reducible rfl)
   (try simp only [Act.put,List.setIfInBounds_toArray,List.set_cons_zero,List.set_cons_succ,List.getElem_toArray,List.getElem_cons_succ,List.getElem_cons_zero])
   refine wpAnyH_take (i:=8) (oi:=_) (v:=?vv36) rfl (by kernel_rfl) (by kernel_rfl) (by kernel_rfl) (fun _ _ _ h=>h) (Or.inl ⟨by rfl,?hy36⟩) (by assumption) ?rest36
   case hy36=>(intro w hSw;(try dsimp only at hSw);go_simp;try with_reducible rfl)
   (try simp only [Act.put,List.setIfInBounds_toArray,List.set_cons_zero,List.set_cons_succ,List.getElem_toArray,List.getElem_cons_succ,List.getElem_cons_zero])
   refine wpAnyH_take (i:=9) (oi:=_) (v:=?vv37) rfl (by kernel_rfl) (by kernel_rfl) (by kernel_rfl) (fun _ _ _ h=>h) (Or.inl ⟨by rfl,?hy37⟩) (by assumption) ?rest37
   case hy37=>(intro w hSw;(try dsimp only at hSw);go_simp;try with_reducible rfl)
   (try simp only [Act.put,List.setIfInBounds_toArray,List.set_cons_zero,List.set_cons_succ,List.getElem_toArray,List.getElem_cons_succ,List.getElem_cons_zero])
   refine wpAnyH_take (i:=10) (oi:=_) (v:=?vv38) rfl (by kernel_rfl) (by kernel_rfl) (by kernel_rfl) (fun _ _ _ h=>h) (Or.inl ⟨by rfl,?hy38⟩) (by assumption) ?rest38
   case hy38=>(intro w hSw;(try dsimp only at hSw);go_simp;try with_reducible rfl)
   (try simp only [Act.put,List.setIfInBounds_toArray,List.set_cons_zero,List.set_cons_succ,List.getElem_toArray,List.getElem_cons_succ,List.getElem_cons_zero])
   refine wpAnyH_take (i:=11) (oi:=_) (v:=?vv39) rfl (by kernel_rfl) (by kernel_rfl) (by kernel_rfl) (fun _ _ _ h=>h) (Or.inl ⟨by rfl,?hy39⟩) (by assumption) ?rest39
   case hy39=>(intro w hSw;(try dsimp only at hSw);go_simp;try with_reducible rfl)
   (try simp only [Act.put,List.setIfInBounds_toArray,List.set_cons_zero,List.set_cons_succ,List.getElem_toArray,List.getElem_cons_succ,List.getElem_cons_zero])
   refine wpAnyH_done (by kernel_rfl) ?_ _
   go_wp2_with fail
   go_meet
   case rel=>exact ⟨⟨_,rfl⟩,by (repeat' (first|with_reducible assumption|with_reducible refine Below.drew ?_))⟩
 obtain ⟨⟨tc,rfl⟩,hbc⟩:=hcut
 have c0:=cell_below hbc k4
 have c1:=cell_below hbc k4'
 have HBC:=Lib.hid (HB0.out.trans (hbc.mono HB0.out.size))
 clear k4 k4' hbc HKS
 have JN:Hid (∀ (z:Int) (tb:Bool) (W:World),Below w.heap.size w W→JnO w (.returned (.tuple #[.int .u64 (IntKind.u64.wrap z),.int .u64 (b:Nat),.bool tb])) W):=fun z tb W hW=>by
  obtain ⟨n,hn,-⟩:=wrapN z
  exact ⟨⟨n,b,tb,by rw [hn]⟩,hW⟩
 cases tc with
 | true=>
  go_wp2_with fail
  refine bodyPost_ret (v:=.tuple #[.int .u64 0,.int .u64 0,.bool false]) (by simp [results,Tryz.results109,go_sem]) rfl ?_
  exact ⟨⟨0,0,false,rfl⟩,HBC.out⟩
 | false=>
  obtain ⟨m,hm⟩:∃ m:Nat,IntKind.u64.wrap (x+6176)=(m:Int):=by obtain ⟨m,hm,-⟩:=wrapN (x+6176);exact ⟨m,hm⟩
  have v1:IntKind.i64.wrap (x+6176)=x+6176:=IntWalk.i64_in _ (by omega)
  go_upto_region 3 with fail
  go_cut [9] from 22 to 28 (fun p W=>(∃ z:Int,p=.int .u64 (IntKind.u64.wrap z))∧W=wc)
  case first=>
   go_wp2_with fail
   go_meet
   case rel=>exact ⟨⟨_,rfl⟩,rfl⟩
  obtain ⟨⟨z,rfl⟩,rfl⟩:=hcut
  go_upto_if 29 with fail
  go_cut [9] from 29 to 31 (fun p W=>(∃ z:Int,p=.int .u64 (IntKind.u64.wrap z))∧W=wc)
  case first=>
   cases ng with
   | true=>
    go_wp2_with fail
    go_meet
    case rel=>exact ⟨⟨_,rfl⟩,rfl⟩
   | false=>
    go_wp2_with fail
    go_meet
    case rel=>exact ⟨⟨_,rfl⟩,rfl⟩
  obtain ⟨⟨z',rfl⟩,rfl⟩:=hcut
  go_wp2_with fail
  go_quiet (fail)
  go_wp2_with fail
  refine bodyPost_ret (v:=.tuple #[.int .u64 (IntKind.u64.wrap z'),.int .u64 (b:Nat),.bool true]) (by simp [results,Tryz.results109,go_sem]) rfl ?_
  exact JN.out _ _ _ (Below_drewN HBC.out)
def PlO (w:World) (e:Ending) (w':World):Prop:=(∃ t,e=.returned (.bool t))∧Below w.heap.size w w'
set_option maxRecDepth 100000 in
set_option maxHeartbeats 8000000 in
theorem plain_calls (h l:Nat) (hh:h < 18446744073709551616) (hl:l < 18446744073709551616) (w:World):Calls Tryz.prog 98 #[.int .u64 (h:Nat),.int .u64 (l:Nat)] w fun e w'=>PlO w e w':=by
 have CS:=Lib.hid (fun W=>dsplit_calls h l hh hl W)
 have CJ:=Lib.hid (fun ng a b ha hb x h1 h2 W=>djoin_calls ng a b ha hb x h1 h2 W)
 clear hh hl
 go_enter Tryz.func98,Tryz.ntmps98
 go_wp2_with fail
 refine (CS.out _).mono ?_
 rintro e w1 ⟨⟨k,ng,v,x,rfl,hk,⟨a,b,rfl,ha,hb⟩,hx1,hx2⟩,hb1⟩
 have HB1:=Lib.hid hb1
 have HAB:=Lib.hid (And.intro ha hb)
 clear hb1 ha hb
 rcases hk with rfl|rfl|rfl
 ·have CJ1:=Lib.hid (fun W=>CJ.out ng a b HAB.out.1 HAB.out.2 x (by omega) (by omega) W)
  go_wp2_with fail
  refine (CJ1.out _).mono ?_
  rintro e w2 ⟨⟨a2,b2,t2,rfl⟩,hb2⟩
  have HB2:Hid (Below w.heap.size w w2):=HB1.out.trans (((Below.refl w1.heap.size w1).alloc (Nat.le_refl _) _ |>.trans (hb2.mono (by simp))).mono HB1.out.size)
  clear hb2
  cases t2 with
  | true=>
   by_cases he:a2=h
   ·subst he
    go_wp2_with fail
    all_goals
     go_ret
     exact And.intro (Exists.intro _ rfl) HB2.out
   ·have d:((a2:Int) == (h:Int))=false:=by simp;omega
    clear he
    go_wp2_with fail
    all_goals
     go_ret
     exact And.intro (Exists.intro _ rfl) HB2.out
  | false=>
   go_wp2_with fail
   all_goals
    go_ret
    exact And.intro (Exists.intro _ rfl) HB2.out
 ·by_cases h1:h=8646911284551352320
  ·have d1:((h:Int) == 8646911284551352320)=true:=by simp;omega
   clear h1
   go_wp2_with fail
   all_goals
    go_ret
    exact And.intro (Exists.intro _ rfl) (HB1.out.alloc HB1.out.size _)
  ·have d1:((h:Int) == 8646911284551352320)=false:=by simp;omega
   by_cases h2:h=17870283321406128128
   ·have d2:((h:Int) == 17870283321406128128)=true:=by simp;omega
    clear h1 h2
    go_wp2_with fail
    all_goals
     go_ret
     exact And.intro (Exists.intro _ rfl) (HB1.out.alloc HB1.out.size _)
   ·have d2:((h:Int) == 17870283321406128128)=false:=by simp;omega
    clear h1 h2
    go_wp2_with fail
    all_goals
     go_ret
     exact And.intro (Exists.intro _ rfl) (HB1.out.alloc HB1.out.size _)
 ·by_cases h1:h=8935141660703064064
  ·have d1:((h:Int) == 8935141660703064064)=true:=by simp;omega
   clear h1
   go_wp2_with fail
   all_goals
    go_ret
    exact And.intro (Exists.intro _ rfl) (HB1.out.alloc HB1.out.size _)
  ·have d1:((h:Int) == 8935141660703064064)=false:=by simp;omega
   clear h1
   go_wp2_with fail
   all_goals
    go_ret
    exact And.intro (Exists.intro _ rfl) (HB1.out.alloc HB1.out.size _)
end Go.Proofs.YtmooaepbdmengaaGreatDoor
