/- Parts of the proof of SniffWritten: SwO, SwQ, SwC, SwM, SwR. -/
import Derived.Test.YtmooaepbdmengaaGreatDoorZ11
import Derived.Deep.RegionHeld3
import Derived.Deep.QuietTactic
import Derived.Deep.CutRange
import Derived.Deep.CutBlock
namespace Go.Proofs.YtmooaepbdmengaaGreatDoor
open Go.RowKit
set_option linter.unusedVariables false
set_option linter.unusedSimpArgs false
def ArrI (W:World) (g n:Nat):Prop:=∀ j,j < n→(∃ x:Int,W.cell? ⟨g,j,none⟩=some (.int .u64 x))∧W.frozen? ⟨g,j,none⟩=false
theorem ArrI.keep {W W':World} {g n:Nat} (h:ArrI W g n) (hb:Below W.heap.size W W'):ArrI W' g n:=fun j hj=>by
 obtain ⟨⟨x,hx⟩,hf⟩:=h j hj
 have hl:=cell_block hx
 exact ⟨⟨x,cell_below hb hx⟩,by rw [hb.frozen (p:=⟨g,j,none⟩) hl];exact hf⟩
theorem ArrI.set {W:World} {g n:Nat} (h:ArrI W g n) (g' i:Nat) (x:Int):ArrI (W.setCell ⟨g',i,none⟩ (.int .u64 x)) g n:=fun j hj=>by
 obtain ⟨⟨y,hy⟩,hf⟩:=h j hj
 refine ⟨?_,by rw [World.frozen?_setCell];exact hf⟩
 by_cases e:(⟨g',i,none⟩:Addr)=⟨g,j,none⟩
 ·rw [← e] at hy ⊢
  exact ⟨x,World.cell?_setCell_same _ _ _ hy⟩
 ·exact ⟨y,(World.cell?_setCell_other W _ _ _ e).trans hy⟩
theorem ArrI.lt {W:World} {g n:Nat} (h:ArrI W g n) (h0:0 < n):g < W.heap.size:=by
 obtain ⟨⟨x,hx⟩,_⟩:=h 0 h0
 exact cell_block hx
theorem limbs_world (a b:Int) (w:World):Calls Tryz.prog 120 #[.agg #[.int .u64 a,.int .u64 b]] w fun e w'=>e=.returned (.agg #[.int .u64 (b.tmod 4294967296),.int .u64 (IntKind.u64.wrap (b.tdiv 4294967296)),.int .u64 (a.tmod 4294967296),.int .u64 (IntKind.u64.wrap (a.tdiv 4294967296))]) ∧
  (w.alloc (.cells #[.int .u64 a,.int .u64 b] 147)).alloc (.cells #[.int .u64 (b.tmod 4294967296),.int .u64 (IntKind.u64.wrap (b.tdiv 4294967296)),.int .u64 (a.tmod 4294967296),.int .u64 (IntKind.u64.wrap (a.tdiv 4294967296))] 165)=w':=by
 go_enter Tryz.func120,Tryz.ntmps120
 go_wp2_with fail
 refine bodyPost_ret (v:=.agg #[.int .u64 (b.tmod 4294967296),.int .u64 (IntKind.u64.wrap (b.tdiv 4294967296)),.int .u64 (a.tmod 4294967296),.int .u64 (IntKind.u64.wrap (a.tdiv 4294967296))]) (by simp [results,Tryz.results120,go_sem]) rfl ?_
 exact ⟨rfl,rfl⟩
theorem below_alZ {a w:World} {B:Nat} (h:Below B a w) (hB:B≤a.heap.size) (o:Obj):Below B a (w.alloc o):=h.alloc (Nat.le_trans hB h.size) o
def AdR (wb:World) (p6 p7:Value) (W:World):Prop:=∃ g6 g7,p6=.pointer (some ⟨g6,0,none⟩)∧p7=.pointer (some ⟨g7,0,none⟩)∧ArrI W g6 4∧ArrI W g7 4∧Below wb.heap.size wb W
set_option maxRecDepth 100000 in
set_option maxHeartbeats 64000000 in
theorem wadd_calls (a b c d:Nat) (w:World):Calls Tryz.prog 119 #[.agg #[.int .u64 (a:Nat),.int .u64 (b:Nat)],.agg #[.int .u64 (c:Nat),.int .u64 (d:Nat)]] w fun e w'=>(∃ v t,e=.returned (.tuple #[v,.bool t])∧WideR v)∧Below w.heap.size w w':=by
 have CL:=Lib.hid (fun a b W=>limbs_world a b W)
 go_enter Tryz.func119,Tryz.ntmps119
 go_upto_region 1 with fail
 obtain ⟨wb,hwb⟩:∃ W,W=((w.alloc (.cells #[.int .u64 (a:Nat),.int .u64 (b:Nat)] 147)).alloc (.cells #[.int .u64 (c:Nat),.int .u64 (d:Nat)] 147)).alloc (.cells #[.int .u64 0,.int .u64 0] 147):=⟨_,rfl⟩
 rw [← hwb]
 obtain ⟨g2,hg2⟩:∃ g,w.heap.size=g:=⟨_,rfl⟩
 have k2:wb.cell? ⟨g2,0,none⟩=some (.int .u64 (a:Nat)):=by rw [hwb,← hg2];simp [go_sem]
 have k2':wb.cell? ⟨g2,1,none⟩=some (.int .u64 (b:Nat)):=by rw [hwb,← hg2];simp [go_sem]
 have k3:wb.cell? ⟨g2+1,0,none⟩=some (.int .u64 (c:Nat)):=by rw [hwb,← hg2];simp [go_sem]
 have k3':wb.cell? ⟨g2+1,1,none⟩=some (.int .u64 (d:Nat)):=by rw [hwb,← hg2];simp [go_sem]
 have A4:ArrI wb (g2+1+1) 2:=by
  intro j hj
  rw [hwb,← hg2]
  rcases (by omega:j=0∨j=1) with rfl|rfl<;>exact ⟨⟨0,by simp [go_sem]⟩,by simp [go_sem]⟩
 have l4:g2+1+1 < wb.heap.size:=by rw [hwb,← hg2];simp
 have HBW:Hid (Below w.heap.size w wb):=by
  rw [hwb];exact ((below_two _ _).alloc (by simp;omega) _)
 have HKS:Hid (∀ W,Below wb.heap.size wb W→Hid (Below wb.heap.size wb W)∧W.cell? ⟨g2,0,none⟩=some (.int .u64 (a:Nat))∧W.cell? ⟨g2,1,none⟩=some (.int .u64 (b:Nat))∧W.cell? ⟨g2+1,0,none⟩=some (.int .u64 (c:Nat))∧W.cell? ⟨g2+1,1,none⟩=some (.int .u64 (d:Nat))):=fun W h=>⟨h,cell_below h k2,cell_below h k2',cell_below h k3,cell_below h k3'⟩
 have HG2:Hid (w.heap.size≤g2+1+1):=by rw [hg2];show _≤_;omega
 rw [hg2]
 clear hwb hg2
 have l2:g2 < wb.heap.size:=by omega
 have l3:g2+1 < wb.heap.size:=by omega
 have HA4:=Lib.hid A4
 clear A4
 go_cut [6,7] from 12 to 15 (fun p6 p7 W=>AdR wb p6 p7 W)
 case first=>
  go_region_held3 (fun W=>Hid (Below wb.heap.size wb W)∧W.cell? ⟨g2,0,none⟩=some (.int .u64 (a:Nat))∧W.cell? ⟨g2,1,none⟩=some (.int .u64 (b:Nat))∧W.cell? ⟨g2+1,0,none⟩=some (.int .u64 (c:Nat))∧W.cell? ⟨g2+1,1,none⟩=some (.int .u64 (d:Nat)))
   (((with_reducible refine HKS.out _ ?_);(repeat' (first|with_reducible assumption|with_reducible exact Below.refl _ _|with_reducible refine below_alZ ?_ (Nat.le_refl _) _|with_reducible refine Below.drew ?_|with_reducible refine Below.setCell ?_ (by dsimp only;simp;try omega) _))))
   ((first
    | (go_at_call 120;(with_reducible refine (CL.out _ _ _).mono ?_);rintro e w5 ⟨rfl,rfl⟩)
    | fail))
  all_goals
   go_wp2_with fail
   go_meet
   case rel=>
    refine ⟨_,_,rfl,rfl,?_,?_,?_⟩
    ·intro j hj
     rcases (by omega:j=0∨j=1∨j=2∨j=3) with rfl|rfl|rfl|rfl<;>exact ⟨⟨_,by simp [go_sem];try rfl⟩,by simp [go_sem]⟩
    ·intro j hj
     rcases (by omega:j=0∨j=1∨j=2∨j=3) with rfl|rfl|rfl|rfl<;>exact ⟨⟨_,by simp [go_sem];try rfl⟩,by simp [go_sem]⟩
    ·(repeat' (first|with_reducible assumption|with_reducible exact Below.refl _ _|with_reducible refine below_alZ ?_ (Nat.le_refl _) _|with_reducible refine Below.drew ?_|with_reducible refine Below.setCell ?_ (by dsimp only;simp;try omega) _))
 obtain ⟨g6,g7,rfl,rfl,a6,a7,hbc⟩:=hcut
 have a4:=HA4.out.keep hbc
 have l46:g2+1+1 < wc.heap.size:=a4.lt (by omega)
 have l66:g6 < wc.heap.size:=a6.lt (by omega)
 have l77:g7 < wc.heap.size:=a7.lt (by omega)
 obtain ⟨g8,hg8⟩:∃ g,wc.heap.size=g:=⟨_,rfl⟩
 obtain ⟨w8,hw8⟩:∃ W,W=wc.alloc (.cells #[.int .u64 0,.int .u64 0,.int .u64 0,.int .u64 0,.int .u64 0,.int .u64 0] 168):=⟨_,rfl⟩
 have h8:Below wc.heap.size wc w8:=by rw [hw8];exact (Below.refl _ _).alloc (Nat.le_refl _) _
 have A8:ArrI w8 g8 6:=by
  intro j hj
  rw [hw8,← hg8]
  rcases (by omega:j=0∨j=1∨j=2∨j=3∨j=4∨j=5) with rfl|rfl|rfl|rfl|rfl|rfl<;>exact ⟨⟨0,by simp [go_sem]⟩,by simp [go_sem]⟩
 have H0:Hid (ArrI w8 (g2+1+1) 2∧ArrI w8 g6 4∧ArrI w8 g7 4∧ArrI w8 g8 6∧Below w.heap.size w w8):=by
  refine ⟨a4.keep h8,a6.keep h8,a7.keep h8,A8,HBW.out.trans ((hbc.trans (h8.mono hbc.size)).mono HBW.out.size)⟩
 clear a4 a6 a7 A8 h8 HA4 HKS k2 k2' k3 k3' CL l2 l3 l4
 go_upto_region 3 with fail
 rw [← hw8]
 have hgw:g8 < w8.heap.size:=by rw [hw8,← hg8];simp
 have HG8:Hid (w.heap.size≤g8):=by rw [← hg8];exact Nat.le_trans HBW.out.size hbc.size
 clear hw8 hg8 l46 l66 l77 hgw HBW hbc
 go_wp2_with fail
 go_loopw [9,10,11] (fun c i _ wr=>(∃ (p:Nat) (x:Int),c=.int .u64 x∧i=.int .i64 (p:Nat)∧p≤4)∧Hid (ArrI wr (g2+1+1) 2∧ArrI wr g6 4∧ArrI wr g7 4∧ArrI wr g8 6∧Below w.heap.size w wr)) (fun _ i _ _=>4 - (intOf i).toNat)
 case atStart=>exact ⟨⟨0,0,rfl,rfl,by omega⟩,H0⟩
 case round=>
  obtain ⟨⟨p,x,rfl,rfl,hp⟩,HA⟩:=hrel
  have HA6:=Lib.hid HA.out.2.1
  have HA7:=Lib.hid HA.out.2.2.1
  have HA8:=Lib.hid HA.out.2.2.2.1
  by_cases hlt:p < 4
  ·obtain ⟨⟨x6,h6⟩,-⟩:=HA6.out p hlt
   obtain ⟨⟨x7,h7⟩,-⟩:=HA7.out p hlt
   have i1:(0:Int)≤(p:Int):=by omega
   have i2:(p:Int) < 4:=by omega
   have i3:(p:Int) < 6:=by omega
   have i2':p < 4:=hlt
   go_wp2_with fail
   go_quiet (fail)
   obtain ⟨wq,hwq⟩:∃ wq,wq=wr.drewN nq:=⟨_,rfl⟩
   rw [← hwq]
   have hdq:Below wr.heap.size wr wq:=by rw [hwq];exact below_drewN _ _ _
   obtain ⟨⟨x8,h8⟩,f8⟩:=HA8.out.keep hdq p (by omega)
   have HN:∀ z:Int,Hid (ArrI (wq.setCell ⟨g8,p,none⟩ (.int .u64 z)) (g2+1+1) 2∧ArrI (wq.setCell ⟨g8,p,none⟩ (.int .u64 z)) g6 4∧ArrI (wq.setCell ⟨g8,p,none⟩ (.int .u64 z)) g7 4∧ArrI (wq.setCell ⟨g8,p,none⟩ (.int .u64 z)) g8 6∧Below w.heap.size w (wq.setCell ⟨g8,p,none⟩ (.int .u64 z))):=fun z=>
    ⟨(HA.out.1.keep hdq).set _ _ _,(HA.out.2.1.keep hdq).set _ _ _,(HA.out.2.2.1.keep hdq).set _ _ _,(HA.out.2.2.2.1.keep hdq).set _ _ _,(HA.out.2.2.2.2.trans (hdq.mono HA.out.2.2.2.2.size)).setCell HG8.out _⟩
   clear hwq hdq h6 h7
   go_wp2_with fail
   go_roundw
   case rel=>exact ⟨⟨p+1,_,rfl,by simp,by omega⟩,HN _⟩
   case measure=>simp [intOf];omega
  ·obtain rfl:p=4:=by omega
   obtain ⟨⟨y0,z0⟩,-⟩:=HA8.out 0 (by omega)
   obtain ⟨⟨y1,z1⟩,-⟩:=HA8.out 1 (by omega)
   obtain ⟨⟨y2,z2⟩,-⟩:=HA8.out 2 (by omega)
   obtain ⟨⟨y3,z3⟩,-⟩:=HA8.out 3 (by omega)
   obtain ⟨⟨y4,z4⟩,-⟩:=HA8.out 4 (by omega)
   obtain ⟨⟨y5,z5⟩,-⟩:=HA8.out 5 (by omega)
   have CW:=Lib.hid (fun W=>wide_calls y0 y1 y2 y3 y4 y5 W)
   go_wp2_with fail
   refine (CW.out _).mono ?_
   rintro e w5 ⟨⟨v,rfl,hv⟩,hb5⟩
   obtain ⟨va,vb,rfl,hva,hvb⟩:=hv
   have hA4:=HA.out.1.keep hb5
   obtain ⟨⟨r0,s0⟩,t0⟩:=hA4 0 (by omega)
   obtain ⟨⟨r1,s1⟩,t1⟩:=hA4 1 (by omega)
   have HB5:=Lib.hid (HA.out.2.2.2.2.trans (hb5.mono HA.out.2.2.2.2.size))
   clear hA4 hb5 z0 z1 z2 z3 z4 z5
   go_wp2_with fail
   refine bodyPost_ret (v:=.tuple #[.agg #[.int .u64 (va:Nat),.int .u64 (vb:Nat)],.bool (decide (0 < x))]) (by simp [results,Tryz.results119,go_sem, *]) rfl ?_
   exact ⟨⟨_,_,rfl,va,vb,rfl,hva,hvb⟩,(HB5.out.setCell HG2.out _).setCell HG2.out _⟩
theorem bit_low (h l k:Nat) (hk:k < 64):(h * 18446744073709551616+l) / 2 ^ k % 2=l / 2 ^ k % 2:=by
 have e:h * 18446744073709551616=(h * 2 ^ (63 - k) * 2) * 2 ^ k:=by
  rw [show (18446744073709551616:Nat)=2 ^ (63 - k) * 2 * 2 ^ k by rw [← Nat.pow_succ,← Nat.pow_add,show (63 - k).succ+k=64 by omega]]
  simp only [Nat.mul_assoc]
 have hp:0 < 2 ^ k:=Nat.pow_pos (by omega)
 rw [e,Nat.add_comm,Nat.add_mul_div_right _ _ hp]
 omega
theorem bit_high (h l k:Nat) (hl:l < 18446744073709551616) (hk:64≤k):(h * 18446744073709551616+l) / 2 ^ k % 2=h / 2 ^ (k - 64) % 2:=by
 have e:(2:Nat) ^ k=18446744073709551616 * 2 ^ (k - 64):=by
  rw [show (18446744073709551616:Nat)=2 ^ 64 from rfl,← Nat.pow_add,show 64+(k - 64)=k by omega]
 rw [e,← Nat.div_div_eq_div_mul]
 congr 2
 omega
theorem half_pow (V k:Nat):V / 2 ^ k=2 * (V / 2 ^ (k+1))+V / 2 ^ k % 2:=by
 rw [Nat.pow_succ,← Nat.div_div_eq_div_mul];omega
theorem div_stepZ (X b Q r s:Nat) (hQ:Q=X / 10) (hr:r=X % 10) (hb:b < 2) (hs:s=2 * r+b):(2 * X+b) / 10=2 * Q+(if 10≤s then 1 else 0)∧(2 * X+b) % 10=(if 10≤s then s - 10 else s):=by
 split<;>omega
set_option maxRecDepth 100000 in
set_option maxHeartbeats 4000000 in
theorem bit_calls (h l k:Nat) (hh:h < 18446744073709551616) (hl:l < 18446744073709551616) (hk:k < 128) (w:World):Calls Tryz.prog 117 #[.agg #[.int .u64 (h:Nat),.int .u64 (l:Nat)],.int .i64 (k:Nat)] w fun e w'=>e=.returned (.int .u64 (((h * 18446744073709551616+l) / 2 ^ k % 2:Nat):Int))∧Below w.heap.size w w':=by
 have hb:∀ n j:Nat,n < 18446744073709551616→bits BinOp.and IntKind.u64 ((n:Int) / 2 ^ j) 1=((n / 2 ^ j % 2:Nat):Int):=fun n j hn=>by
  have e:((n:Int) / 2 ^ j)=((n / 2 ^ j:Nat):Int):=by norm_cast
  have hle:n / 2 ^ j≤n:=Nat.div_le_self _ _
  obtain ⟨q,hq⟩:∃ q,n / 2 ^ j=q:=⟨_,rfl⟩
  rw [e,hq]
  rw [hq] at hle
  rw [and_one_u64 _ (by omega) (by omega)]
  omega
 by_cases h64:k < 64
 ·have hv:=hb l k hl
  rw [bit_low h l k h64]
  go_enter Tryz.func117,Tryz.ntmps117
  go_wp2_with fail
  go_ret
  exact ⟨by first|rfl|(rw [hv]),(Below.refl _ _).alloc (Nat.le_refl _) _⟩
 ·have hv:=hb h (k - 64) hh
  rw [bit_high h l k hl (by omega)]
  go_enter Tryz.func117,Tryz.ntmps117
  go_wp2_with fail
  go_ret
  exact ⟨by first|rfl|(rw [hv]),(Below.refl _ _).alloc (Nat.le_refl _) _⟩
theorem two_cells {W:World} {g:Nat} {a0 a1:Value} (h0:W.cell? ⟨g,0,none⟩=some a0) (h1:W.cell? ⟨g,1,none⟩=some a1) (u v:Value) :
  ((W.setCell ⟨g,0,none⟩ u).setCell ⟨g,1,none⟩ v).cell? ⟨g,0,none⟩=some u∧((W.setCell ⟨g,0,none⟩ u).setCell ⟨g,1,none⟩ v).cell? ⟨g,1,none⟩=some v∧∀ p:Addr,p.block≠g→((W.setCell ⟨g,0,none⟩ u).setCell ⟨g,1,none⟩ v).cell? p=W.cell? p:=by
 refine ⟨?_,?_,fun p hp=>?_⟩
 ·exact (World.cell?_setCell_other _ _ _ _ (by simp)).trans (World.cell?_setCell_same _ _ _ h0)
 ·exact World.cell?_setCell_same _ _ _ ((World.cell?_setCell_other _ _ _ _ (by simp)).trans h1)
 ·exact (World.cell?_setCell_other _ _ _ _ (by rintro rfl;exact hp rfl)).trans (World.cell?_setCell_other _ _ _ _ (by rintro rfl;exact hp rfl))
def DvRel (V:Nat) (w:World) (g2 g4 g7 h l:Nat) (rv iv:Value) (W:World):Prop:=
 ∃ (k r qh ql:Nat),((∃ j,k=j+1∧iv=.int .i64 (j:Nat))∨(k=0∧iv=.int .i64 (-1)))∧k≤128∧rv=.int .u64 (r:Nat)∧r=V / 2 ^ k % 10∧qh=V / 2 ^ k / 10 / 18446744073709551616∧ql=V / 2 ^ k / 10 % 18446744073709551616 ∧
  W.cell? ⟨g7,0,none⟩=some (.int .u64 (qh:Nat))∧W.cell? ⟨g7,1,none⟩=some (.int .u64 (ql:Nat))∧W.cell? ⟨g2,0,none⟩=some (.int .u64 (h:Nat))∧W.cell? ⟨g2,1,none⟩=some (.int .u64 (l:Nat))∧ArrI W g7 2∧ArrI W g4 2∧Below w.heap.size w W
set_option maxRecDepth 100000 in
set_option maxHeartbeats 16000000 in
theorem div_calls (h l:Nat) (hh:h < 18446744073709551616) (hl:l < 18446744073709551616) (w:World):Calls Tryz.prog 115 #[.agg #[.int .u64 (h:Nat),.int .u64 (l:Nat)],.int .u64 10] w fun e w'=>
  e=.returned (.tuple #[.agg #[.int .u64 (((h * 18446744073709551616+l) / 10 / 18446744073709551616:Nat):Int),.int .u64 (((h * 18446744073709551616+l) / 10 % 18446744073709551616:Nat):Int)],.int .u64 (((h * 18446744073709551616+l) % 10:Nat):Int),.bool true])∧Below w.heap.size w w':=by
 have CB:=Lib.hid (fun k hk W=>bit_calls h l k hh hl hk W)
 obtain ⟨V,hV⟩:∃ V,h * 18446744073709551616+l=V:=⟨_,rfl⟩
 rw [hV] at CB ⊢
 have hVb:V < 340282366920938463463374607431768211456:=by omega
 have HV:=Lib.hid hVb
 clear hVb hV
 go_enter Tryz.func115,Tryz.ntmps115
 go_wp2_with fail
 obtain ⟨wb,hwb⟩:∃ W,W=((w.alloc (.cells #[.int .u64 (h:Nat),.int .u64 (l:Nat)] 147)).alloc (.cells #[.int .u64 0,.int .u64 0] 147)).alloc (.cells #[.int .u64 0,.int .u64 0] 147):=⟨_,rfl⟩
 rw [← hwb]
 obtain ⟨g2,hg2⟩:∃ g,w.heap.size=g:=⟨_,rfl⟩
 have H0:Hid (DvRel V w g2 (g2+1) (g2+1+1) h l (.int .u64 0) (.int .i64 127) wb):=by
  have hz:V / 2 ^ 128=0:=Nat.div_eq_of_lt HV.out
  refine ⟨128,0,0,0,.inl ⟨127,rfl,rfl⟩,by omega,rfl,by rw [hz],by rw [hz],by rw [hz],?_,?_,?_,?_,?_,?_,?_⟩
  ·rw [hwb,← hg2];simp [go_sem]
  ·rw [hwb,← hg2];simp [go_sem]
  ·rw [hwb,← hg2];simp [go_sem]
  ·rw [hwb,← hg2];simp [go_sem]
  ·intro j hj
   rw [hwb,← hg2]
   rcases (by omega:j=0∨j=1) with rfl|rfl<;>exact ⟨⟨0,by simp [go_sem]⟩,by simp [go_sem]⟩
  ·intro j hj
   rw [hwb,← hg2]
   rcases (by omega:j=0∨j=1) with rfl|rfl<;>exact ⟨⟨0,by simp [go_sem]⟩,by simp [go_sem]⟩
  ·rw [hwb];exact ((below_two _ _).alloc (by simp;omega) _)
 have HG:Hid (w.heap.size≤g2+1):=by rw [hg2];show _≤_;omega
 have HG7:Hid (w.heap.size≤g2+1+1):=by rw [hg2];show _≤_;omega
 rw [hg2]
 obtain ⟨g4,hg4⟩:∃ g,g2+1=g:=⟨_,rfl⟩
 rw [hg4] at H0 HG HG7 ⊢
 obtain ⟨g7,hg7⟩:∃ g,g4+1=g:=⟨_,rfl⟩
 rw [hg7] at H0 HG7 ⊢
 have n1:Hid (g2≠g7∧g4≠g7∧g2≠g4):=by show _∧_∧_;omega
 clear hwb hg2 hg4 hg7
 go_loopw [8,9,10] (fun r i _ wr=>Hid (DvRel V w g2 g4 g7 h l r i wr)) (fun _ i _ _=>(intOf i+1).toNat)
 case atStart=>exact H0
 case round=>
  obtain ⟨k,r,qh,ql,hik,hk,rfl,hr,hqh,hql,c70,c71,c20,c21,a7,a4,hB⟩:=hrel
  rcases hik with ⟨j,rfl,rfl⟩|⟨rfl,rfl⟩
  ·have hhalf:=half_pow V j
   obtain ⟨b,hb⟩:∃ b,b=V / 2 ^ j % 2:=⟨_,rfl⟩
   have hb2:b < 2:=by omega
   have hX:V / 2 ^ (j+1) < 170141183460469231731687303715884105728:=by
    have e1:V / 2 ^ (j+1)=V / 2 / 2 ^ j:=by rw [Nat.pow_succ,Nat.mul_comm,Nat.div_div_eq_div_mul]
    have e2:V / 2 / 2 ^ j≤V / 2:=Nat.div_le_self _ _
    have:=HV.out
    omega
   obtain ⟨X,hXe⟩:∃ X,X=V / 2 ^ (j+1):=⟨_,rfl⟩
   obtain ⟨Y,hYe⟩:∃ Y,Y=V / 2 ^ j:=⟨_,rfl⟩
   have CB1:=Lib.hid (fun W=>CB.out j (by omega) W)
   rw [← hXe] at hr hqh hql hX hhalf
   rw [← hb] at hhalf CB1
   rw [← hYe] at hhalf
   obtain ⟨t,ht⟩:∃ t,t=2 * r:=⟨_,rfl⟩
   obtain ⟨s,hs⟩:∃ s,s=t+b:=⟨_,rfl⟩
   have hst:=div_stepZ X b (X / 10) r s rfl hr hb2 (by omega)
   rw [← hhalf] at hst
   obtain ⟨x,hx⟩:∃ x,x=ql / 9223372036854775808:=⟨_,rfl⟩
   obtain ⟨h2,hh2⟩:∃ x,x=qh * 2:=⟨_,rfl⟩
   obtain ⟨h3,hh3⟩:∃ y,y=h2+x:=⟨_,rfl⟩
   obtain ⟨l2,hl2⟩:∃ y,y=ql * 2 % 18446744073709551616:=⟨_,rfl⟩
   have hq9:h3=2 * (X / 10) / 18446744073709551616∧l2=2 * (X / 10) % 18446744073709551616∧l2 % 2=0∧h3 < 18446744073709551616∧h2 < 18446744073709551616∧r < 10:=by omega
   obtain ⟨hh9,hl9,hl90,hh39,hh29,hr10⟩:=hq9
   have e1:(r:Int) / 9223372036854775808=0:=by omega
   have e2:IntKind.u64.wrap ((r:Int) * 2)=(t:Int):=by rw [IntKind.wrap_u64];omega
   have e3:IntKind.u64.wrap ((t:Int)+(b:Int))=(s:Int):=by rw [IntKind.wrap_u64];omega
   have e4:(ql:Int) / 9223372036854775808=(x:Int):=by omega
   have e5:IntKind.u64.wrap ((qh:Int) * 2)=(h2:Int):=by rw [IntKind.wrap_u64];omega
   have e6:IntKind.u64.wrap ((h2:Int)+(x:Int))=(h3:Int):=by rw [IntKind.wrap_u64];omega
   have e7:IntKind.u64.wrap ((ql:Int) * 2)=(l2:Int):=by rw [IntKind.wrap_u64];omega
   have hjb:j < 128:=by omega
   have HHY:Hid (V / 2 ^ j=Y):=hYe.symm
   have hs20:s < 20:=by omega
   have hl29:l2 < 18446744073709551616:=by omega
   have HIV:Hid ((∃ j',j=j'+1∧Value.int .i64 ((j:Int) - 1)=.int .i64 (j':Nat))∨(j=0∧Value.int .i64 ((j:Int) - 1)=.int .i64 (-1))):=by
    cases j with
    | zero=>exact .inr ⟨rfl,rfl⟩
    | succ j'=>exact .inl ⟨j',rfl,by congr 1;omega⟩
   have e8:IntKind.i64.wrap ((j:Int) - 1)=(j:Int) - 1:=IntWalk.i64_in _ (by omega)
   have HFIN:Hid (∀ (W:World) (r' l':Nat),r'=Y % 10→h3=Y / 10 / 18446744073709551616→l'=Y / 10 % 18446744073709551616→W.cell? ⟨g7,0,none⟩=some (.int .u64 (h3:Nat))→W.cell? ⟨g7,1,none⟩=some (.int .u64 (l':Nat))→W.cell? ⟨g2,0,none⟩=some (.int .u64 (h:Nat))→W.cell? ⟨g2,1,none⟩=some (.int .u64 (l:Nat))→ArrI W g7 2→ArrI W g4 2→Below w.heap.size w W→Hid (DvRel V w g2 g4 g7 h l (.int .u64 (r':Nat)) (.int .i64 ((j:Int) - 1)) W)):=
    fun W r' l' q1 q2 q3 q4 q5 q6 q7 q8 q9 q10=>⟨j,r',h3,l',HIV.out,by omega,rfl,by rw [HHY.out];exact q1,by rw [HHY.out];exact q2,by rw [HHY.out];exact q3,q4,q5,q6,q7,q8,q9,q10⟩
   have HY:Hid (∀ d:Nat,(if 10≤s then 1 else 0)=d→Y / 10=2 * (X / 10)+d∧Y % 10=(if 10≤s then s - 10 else s)):=fun d hd=>by rw [← hd];exact hst
   have HXX:Hid (h3=2 * (X / 10) / 18446744073709551616∧l2=2 * (X / 10) % 18446744073709551616∧l2 % 2=0):=⟨hh9,hl9,hl90⟩
   have HAA:=Lib.hid (show ArrI wr g7 2∧ArrI wr g4 2∧Below w.heap.size w wr from ⟨a7,a4,hB⟩)
   clear hhalf hb hb2 hX hXe hYe hr hqh hql hst ht hs hx hh2 hh3 hl2 hh9 hl9 hl90 a7 a4 hB hk
   go_wp2_with fail
   refine (CB1.out _).mono ?_
   rintro e w5 ⟨rfl,hb5⟩
   have d20:=cell_below hb5 c20
   have d21:=cell_below hb5 c21
   have d70:=cell_below hb5 c70
   have d71:=cell_below hb5 c71
   have f7:=HAA.out.1.keep hb5
   obtain ⟨-,f70⟩:=f7 0 (by omega)
   obtain ⟨-,f71⟩:=f7 1 (by omega)
   have HF7:=Lib.hid f7
   have HF4:=Lib.hid (HAA.out.2.1.keep hb5)
   have HB5:=Lib.hid (HAA.out.2.2.trans (hb5.mono HAA.out.2.2.size))
   have m1:g2≠g7:=n1.out.1
   have m1':¬ g7=g2:=fun e=>m1 e.symm
   have HC:=Lib.hid (two_cells d70 d71 (.int .u64 (h3:Nat)) (.int .u64 (l2:Nat)))
   clear f7 hb5 c20 c21 c70 c71
   by_cases h10:10≤s
   ·obtain ⟨r9,hr9⟩:∃ r9,r9=s - 10:=⟨_,rfl⟩
    obtain ⟨l3,hl3⟩:∃ l3,l3=l2+1:=⟨_,rfl⟩
    have u1:IntKind.u64.wrap ((s:Int) - 10)=(r9:Int):=by rw [IntKind.wrap_u64];omega
    have u2:IntKind.u64.wrap ((l2:Int)+1)=(l3:Int):=by rw [IntKind.wrap_u64];have:=HXX.out.2.2;omega
    have HR9:=Lib.hid hr9
    have HL3:=Lib.hid hl3
    clear hr9 hl3
    have HN:=Lib.hid (HFIN.out ((w5.setCell ⟨g7,0,none⟩ (.int .u64 (h3:Nat))).setCell ⟨g7,1,none⟩ (.int .u64 (l2:Nat)) |>.setCell ⟨g7,1,none⟩ (.int .u64 (l3:Nat))) r9 l3
     (by have:=HY.out 1 (by rw [if_pos h10]);rw [this.2,if_pos h10];exact HR9.out)
     (by have:=HY.out 1 (by rw [if_pos h10]);rw [this.1];have:=HXX.out;omega)
     (by have:=HY.out 1 (by rw [if_pos h10]);rw [this.1,HL3.out];have:=HXX.out;omega)
     ((World.cell?_setCell_other _ _ _ _ (by simp)).trans (HC.out.1)) (World.cell?_setCell_same _ _ _ HC.out.2.1)
     (((World.cell?_setCell_other _ _ _ _ (by first|(simp;done)|simpa using m1')).trans (HC.out.2.2 _ (by simpa using m1))).trans d20) (((World.cell?_setCell_other _ _ _ _ (by first|(simp;done)|simpa using m1')).trans (HC.out.2.2 _ (by simpa using m1))).trans d21)
     (((HF7.out.set _ _ _).set _ _ _).set _ _ _) (((HF4.out.set _ _ _).set _ _ _).set _ _ _)
     (((HB5.out.setCell HG7.out _).setCell HG7.out _).setCell HG7.out _))
    go_wp2_with fail
    go_roundw
    case rel=>exact HN
    case measure=>simp [intOf]<;>omega
   ·have HN:=Lib.hid (HFIN.out ((w5.setCell ⟨g7,0,none⟩ (.int .u64 (h3:Nat))).setCell ⟨g7,1,none⟩ (.int .u64 (l2:Nat))) s l2
     (by have:=HY.out 0 (by rw [if_neg h10]);rw [this.2,if_neg h10])
     (by have:=HY.out 0 (by rw [if_neg h10]);rw [this.1];have:=HXX.out;omega)
     (by have:=HY.out 0 (by rw [if_neg h10]);rw [this.1];have:=HXX.out;omega)
     HC.out.1 HC.out.2.1 ((HC.out.2.2 _ (by simpa using m1)).trans d20) ((HC.out.2.2 _ (by simpa using m1)).trans d21)
     ((HF7.out.set _ _ _).set _ _ _) ((HF4.out.set _ _ _).set _ _ _)
     ((HB5.out.setCell HG7.out _).setCell HG7.out _))
    go_wp2_with fail
    go_roundw
    case rel=>exact HN
    case measure=>simp [intOf]<;>omega
  ·obtain ⟨-,f40⟩:=a4 0 (by omega)
   obtain ⟨-,f41⟩:=a4 1 (by omega)
   obtain ⟨⟨z0,c40⟩,-⟩:=a4 0 (by omega)
   obtain ⟨⟨z1,c41⟩,-⟩:=a4 1 (by omega)
   have HB:=Lib.hid hB
   rw [show V / 2 ^ 0=V by simp] at hr hqh hql
   have HE:=Lib.hid (show r=V % 10∧qh=V / 10 / 18446744073709551616∧ql=V / 10 % 18446744073709551616 from ⟨hr,hqh,hql⟩)
   have m2:¬ g4=g7:=n1.out.2.1
   clear hr hqh hql a7 a4 hB hk
   go_wp2_with fail
   refine bodyPost_ret (v:=.tuple #[.agg #[.int .u64 (qh:Nat),.int .u64 (ql:Nat)],.int .u64 (r:Nat),.bool true]) (by simp [results,Tryz.results115,go_sem, *]) rfl ?_
   refine ⟨?_,(HB.out.setCell HG.out _).setCell HG.out _⟩
   rw [← HE.out.1,← HE.out.2.1,← HE.out.2.2]
def leapB (y:Int):Bool:=y.tmod 4 == 0 && (!(y.tmod 100 == 0) || y.tmod 400 == 0)
def daysN (y m:Int):Int:=if m=2 then (if leapB y then 29 else 28) else if m=4∨m=6∨m=9∨m=11 then 30 else 31
theorem daysN_bd (y m:Int):28≤daysN y m∧daysN y m≤31:=by unfold daysN;repeat' split<;>omega
set_option maxRecDepth 100000 in
set_option maxHeartbeats 4000000 in
theorem leap_calls (y:Int) (w:World):Calls Tryz.prog 105 #[.int .i64 y] w fun e w'=>e=.returned (.bool (leapB y))∧w=w':=by
 obtain ⟨r,hr⟩:∃ r,leapB y=r:=⟨_,rfl⟩
 rw [hr]
 unfold leapB at hr
 obtain ⟨a,ha⟩:∃ a,y.tmod 4=a:=⟨_,rfl⟩
 obtain ⟨b,hb⟩:∃ a,y.tmod 100=a:=⟨_,rfl⟩
 obtain ⟨c,hc⟩:∃ a,y.tmod 400=a:=⟨_,rfl⟩
 rw [ha,hb,hc] at hr
 by_cases h4:a=0
 ·subst h4
  by_cases h5:b=0
  ·subst h5
   by_cases h6:c=0
   ·subst h6
    obtain rfl:r=true:=by simpa using hr.symm
    go_enter Tryz.func105,Tryz.ntmps105
    go_wp2_with fail
    go_ret
    exact ⟨rfl,rfl⟩
   ·have d6:(c == 0)=false:=by simp [h6]
    obtain rfl:r=false:=by simpa [d6] using hr.symm
    go_enter Tryz.func105,Tryz.ntmps105
    go_wp2_with fail
    go_ret
    exact ⟨rfl,rfl⟩
  ·have d5:(b == 0)=false:=by simp [h5]
   obtain rfl:r=true:=by simpa [d5] using hr.symm
   go_enter Tryz.func105,Tryz.ntmps105
   go_wp2_with fail
   go_ret
   exact ⟨rfl,rfl⟩
 ·have d4:(a == 0)=false:=by simp [h4]
  obtain rfl:r=false:=by simpa [d4] using hr.symm
  go_enter Tryz.func105,Tryz.ntmps105
  go_wp2_with fail
  go_ret
  exact ⟨rfl,rfl⟩
set_option maxRecDepth 100000 in
set_option maxHeartbeats 4000000 in
theorem days_calls (y m:Int) (w:World):Calls Tryz.prog 106 #[.int .i64 y,.int .i64 m] w fun e w'=>e=.returned (.int .i64 (daysN y m))∧w=w':=by
 obtain ⟨r,hr⟩:∃ r,daysN y m=r:=⟨_,rfl⟩
 rw [hr]
 have CL:=Lib.hid (fun W=>leap_calls y W)
 unfold daysN at hr
 obtain ⟨lp,hlp⟩:∃ l,leapB y=l:=⟨_,rfl⟩
 rw [hlp] at CL hr
 clear hlp
 have hm:m=2∨m=4∨m=6∨m=9∨m=11∨(m≠2∧m≠4∧m≠6∧m≠9∧m≠11):=by omega
 rcases hm with rfl|rfl|rfl|rfl|rfl|⟨a2,a4,a6,a9,a11⟩
 ·cases lp with
  | true=>
   obtain rfl:r=29:=by simpa using hr.symm
   go_enter Tryz.func106,Tryz.ntmps106
   go_wp2_with fail
   refine (CL.out _).mono ?_
   rintro e w1 ⟨rfl,rfl⟩
   go_wp2_with fail
   go_ret
   exact ⟨rfl,rfl⟩
  | false=>
   obtain rfl:r=28:=by simpa using hr.symm
   go_enter Tryz.func106,Tryz.ntmps106
   go_wp2_with fail
   refine (CL.out _).mono ?_
   rintro e w1 ⟨rfl,rfl⟩
   go_wp2_with fail
   go_ret
   exact ⟨rfl,rfl⟩
 ·obtain rfl:r=30:=by simpa using hr.symm
  go_enter Tryz.func106,Tryz.ntmps106
  go_wp2_with fail
  go_ret
  exact ⟨rfl,rfl⟩
 ·obtain rfl:r=30:=by simpa using hr.symm
  go_enter Tryz.func106,Tryz.ntmps106
  go_wp2_with fail
  go_ret
  exact ⟨rfl,rfl⟩
 ·obtain rfl:r=30:=by simpa using hr.symm
  go_enter Tryz.func106,Tryz.ntmps106
  go_wp2_with fail
  go_ret
  exact ⟨rfl,rfl⟩
 ·obtain rfl:r=30:=by simpa using hr.symm
  go_enter Tryz.func106,Tryz.ntmps106
  go_wp2_with fail
  go_ret
  exact ⟨rfl,rfl⟩
 ·have d2:(m == 2)=false:=by simp [a2]
  have d4:(m == 4)=false:=by simp [a4]
  have d6:(m == 6)=false:=by simp [a6]
  have d9:(m == 9)=false:=by simp [a9]
  have d11:(m == 11)=false:=by simp [a11]
  obtain rfl:r=31:=by simpa [a2,a4,a6,a9,a11] using hr.symm
  go_enter Tryz.func106,Tryz.ntmps106
  go_wp2_with fail
  go_ret
  exact ⟨rfl,rfl⟩
def PadRel (n:Nat) (w:World) (s:Value) (wr:World):Prop:=
 ∃ (b:ByteArray),s=.string b∧(∀ c ∈ sl b,dig c=true)∧b.size≤20∧Below w.heap.size w wr
set_option maxRecDepth 100000 in
set_option maxHeartbeats 4000000 in
theorem pad_calls (v n:Nat) (hv:v < 9223372036854775808) (hn:n≤20) (w:World) :
  Calls Tryz.prog 107 #[.int .i64 (v:Nat),.int .i64 (n:Nat)] w fun e w'=>(∃ b,e=.returned (.string b)∧(∀ c ∈ sl b,dig c=true)∧b.size≤20)∧Below w.heap.size w w':=by
 have CD:=Lib.hid (fun W=>digits_calls v (by omega) W)
 have HL:=Lib.hid (digL_num v (by omega))
 have w1:IntKind.u64.wrap (v:Int)=(v:Int):=by rw [IntKind.wrap_u64];omega
 go_enter Tryz.func107,Tryz.ntmps107
 go_wp2_with fail
 refine (CD.out _).mono ?_
 rintro e w1 ⟨rfl,hb1⟩
 have H0:Hid (PadRel n w (.string (txt (digL 19 v []))) w1):=⟨_,rfl,HL.out.1.1,by rw [txt_size];have:=HL.out.2;omega,hb1⟩
 clear hb1 CD HL hv
 go_wp2_with fail
 go_loopw [5] (fun x wr=>Hid (PadRel n w x wr)) (fun x _=>64 - (match x with|.string b=>b.size|_=>0))
 case atStart=>exact H0
 case round=>
  obtain ⟨b,rfl,hd,hbs,HB⟩:=hrel
  have HD:=Lib.hid hd
  have HB:=Lib.hid HB
  clear hd
  by_cases hlt:b.size < n
  ·have e48:(⟨#[48]⟩:ByteArray).size=1:=rfl
   have hlen:¬ 9223372036854775807 < (⟨#[48]⟩:ByteArray).size+b.size:=by omega
   go_wp2_with fail
   go_roundw
   case rel=>exact ⟨_,rfl,fun c hc=>by
    rw [sl_append] at hc
    rcases List.mem_append.1 hc with h|h
    ·have:c=48:=by simpa [sl] using h
     subst this;rfl
    ·exact HD.out c h,by rw [ByteArray.size_append];omega,HB.out⟩
   case measure=>simp [ByteArray.size_append];omega
  ·go_wp2_with fail
   go_ret
   exact ⟨⟨_,rfl,HD.out,hbs⟩,HB.out⟩
theorem sl_plus (a b:ByteArray):sl (a++b)=sl a++sl b:=by unfold sl;simp
def AscS (n:Nat) (s:ByteArray):Prop:=Asc (sl s)∧s.size≤n
theorem AscS.app {a b:ByteArray} {n m k:Nat} (ha:AscS n a) (hb:AscS m b) (hk:n+m≤k):AscS k (a++b):=
 ⟨by rw [sl_plus];exact ha.1.append hb.1,by rw [ByteArray.size_append];have:=ha.2;have:=hb.2;omega⟩
theorem AscS.dig {b:ByteArray} (h:(∀ c ∈ sl b,dig c=true)∧b.size≤20):AscS 20 b:=⟨Asc.digs (AllD.of_dig h.1),h.2⟩
theorem ww_i {x:Nat} (h:x≤86400000):IntKind.i64.wrap (x:Int)=(x:Int)∧wrap64 (x:Int)=(x:Int)∧x < 9223372036854775808:=⟨IntWalk.i64_in _ (by omega),by unfold wrap64;omega,by omega⟩
theorem td_n (n k:Nat):((n:Int)).tdiv (k:Int)=((n / k:Nat):Int):=by rw [Int.tdiv_eq_ediv_of_nonneg (by omega)];rfl
theorem tm_n (n k:Nat):((n:Int)).tmod (k:Int)=((n % k:Nat):Int):=by rw [Int.tmod_eq_emod_of_nonneg (by omega)];rfl
theorem dd_facts (dn:Nat) (h:dn≤1000):∃ dd:Nat,IntKind.i64.wrap ((dn:Int)+1)=(dd:Int)∧dd < 9223372036854775808:=⟨dn+1,(IntWalk.i64_in _ (by omega)).trans (by omega),by omega⟩
theorem tm_facts (l0:Nat) (h:l0 < 86400000) :
  (∃ x1:Nat,(l0:Int).tdiv 3600000=(x1:Int)∧IntKind.i64.wrap (x1:Int)=(x1:Int)∧wrap64 (x1:Int)=(x1:Int)∧x1 < 9223372036854775808) ∧
  (∃ x2 x3:Nat,(l0:Int).tdiv 60000=(x2:Int)∧(x2:Int).tmod 60=(x3:Int)∧IntKind.i64.wrap (x2:Int)=(x2:Int)∧IntKind.i64.wrap (x3:Int)=(x3:Int)∧wrap64 (x2:Int)=(x2:Int)∧wrap64 (x3:Int)=(x3:Int)∧x3 < 9223372036854775808) ∧
  (∃ x2 x3:Nat,(l0:Int).tdiv 1000=(x2:Int)∧(x2:Int).tmod 60=(x3:Int)∧IntKind.i64.wrap (x2:Int)=(x2:Int)∧IntKind.i64.wrap (x3:Int)=(x3:Int)∧wrap64 (x2:Int)=(x2:Int)∧wrap64 (x3:Int)=(x3:Int)∧x3 < 9223372036854775808) ∧
  (∃ x1:Nat,(l0:Int).tmod 1000=(x1:Int)∧IntKind.i64.wrap (x1:Int)=(x1:Int)∧wrap64 (x1:Int)=(x1:Int)∧x1 < 9223372036854775808):=by
 have hl:l0≤86400000:=Nat.le_of_lt h
 have a1:=ww_i (x:=l0 / 3600000) (Nat.le_trans (Nat.div_le_self _ _) hl)
 have a2:=ww_i (x:=l0 / 60000) (Nat.le_trans (Nat.div_le_self _ _) hl)
 have a3:=ww_i (x:=l0 / 60000 % 60) (Nat.le_trans (Nat.mod_le _ _) (Nat.le_trans (Nat.div_le_self _ _) hl))
 have a4:=ww_i (x:=l0 / 1000) (Nat.le_trans (Nat.div_le_self _ _) hl)
 have a5:=ww_i (x:=l0 / 1000 % 60) (Nat.le_trans (Nat.mod_le _ _) (Nat.le_trans (Nat.div_le_self _ _) hl))
 have a6:=ww_i (x:=l0 % 1000) (Nat.le_trans (Nat.mod_le _ _) hl)
 exact ⟨⟨_,td_n l0 3600000,a1.1,a1.2.1,a1.2.2⟩,⟨_,_,td_n l0 60000,tm_n _ 60,a2.1,a3.1,a2.2.1,a3.2.1,a3.2.2⟩,⟨_,_,td_n l0 1000,tm_n _ 60,a4.1,a5.1,a4.2.1,a5.2.1,a5.2.2⟩,⟨_,tm_n l0 1000,a6.1,a6.2.1,a6.2.2⟩⟩
theorem sz1 {n:Nat} (m:Nat) (h:n≤m) (hm:m≤100000):¬ 9223372036854775807 < n+1:=by omega
theorem sz2 {n k:Nat} (a b:Nat) (h:n≤a) (hk:k≤b) (hm:a+b≤100000):¬ 9223372036854775807 < n+k:=by omega
def TmO (w:World) (e:Ending) (w':World):Prop:=(∃ (s:ByteArray) (b:Bool),e=.returned (.tuple #[.string s,.bool b])∧AscS 150 s)∧Below w.heap.size w w'
set_option maxRecDepth 100000 in
set_option maxHeartbeats 8000000 in
theorem time_calls (ms:Int) (w:World):Calls Tryz.prog 96 #[.int .i64 ms] w fun e w'=>TmO w e w':=by
 have CL:=Lib.hid (fun y W=>leap_calls y W)
 have CD:=Lib.hid (fun y m W=>days_calls y m W)
 have HB0:=Lib.hid (Below.refl w.heap.size w)
 have HNO:Hid (AscS 150 ⟨#[]⟩):=⟨fun c hc=>by simp [sl] at hc,by simp [ByteArray.size]⟩
 by_cases h0:ms < 0
 ·go_enter Tryz.func96,Tryz.ntmps96
  go_wp2_with fail
  refine bodyPost_ret (v:=.tuple #[.string ⟨#[]⟩,.bool false]) (by simp [results,Tryz.results96,go_sem, *]) rfl ?_
  exact ⟨⟨_,_,rfl,HNO.out⟩,HB0.out⟩
 by_cases h1:253402300799999 < ms
 ·go_enter Tryz.func96,Tryz.ntmps96
  go_wp2_with fail
  refine bodyPost_ret (v:=.tuple #[.string ⟨#[]⟩,.bool false]) (by simp [results,Tryz.results96,go_sem, *]) rfl ?_
  exact ⟨⟨_,_,rfl,HNO.out⟩,HB0.out⟩
 clear HNO
 obtain ⟨M,rfl⟩:=Int.eq_ofNat_of_zero_le (show 0≤ms by omega)
 obtain ⟨d0,hd0⟩:∃ d,d=M / 86400000:=⟨_,rfl⟩
 obtain ⟨l0,hl0⟩:∃ l,l=M % 86400000:=⟨_,rfl⟩
 have r1:(M:Int).tdiv 86400000=(d0:Int):=by rw [Int.tdiv_eq_ediv_of_nonneg (by omega)];omega
 have r2:(M:Int).tmod 86400000=(l0:Int):=by rw [Int.tmod_eq_emod_of_nonneg (by omega)];omega
 have s1:IntKind.i64.wrap (d0:Int)=(d0:Int):=IntWalk.i64_in _ (by omega)
 have s2:IntKind.i64.wrap (l0:Int)=(l0:Int):=IntWalk.i64_in _ (by omega)
 have s3:wrap64 (d0:Int)=(d0:Int):=by unfold wrap64;omega
 have s4:wrap64 (l0:Int)=(l0:Int):=by unfold wrap64;omega
 have hd9:d0≤2932897:=by omega
 have hl9:l0 < 86400000:=by omega
 clear hd0 hl0
 go_enter Tryz.func96,Tryz.ntmps96
 go_upto_block 0 with fail
 go_cut [4,6,8] from 20 (fun d y _ W=>(∃ dn yn:Nat,d=.int .i64 (dn:Nat)∧y=.int .i64 (yn:Nat)∧dn≤365∧yn≤3000000)∧W=w)
 case first=>
  go_wp2_with fail
  go_loopw [4,6,8] (fun d y _ wr=>(∃ dn yn:Nat,d=.int .i64 (dn:Nat)∧y=.int .i64 (yn:Nat)∧dn+yn≤2934867)∧wr=w) (fun d _ _ _=>(intOf d).toNat)
  case atStart=>exact ⟨⟨d0,1970,rfl,rfl,by omega⟩,rfl⟩
  case round=>
   obtain ⟨⟨dn,yn,rfl,rfl,hb⟩,rfl⟩:=hrel
   by_cases hlt:365≤dn
   ·have CL1:=Lib.hid (fun W=>CL.out (yn:Int) W)
    generalize leapB (yn:Int)=lp at CL1
    have y1:IntKind.i64.wrap ((yn:Int)+1)=((yn+1:Nat):Int):=(IntWalk.i64_in _ (by omega)).trans (by omega)
    cases lp with
    | true=>
     by_cases h6:dn < 366
     ·go_wp2_with fail
      refine (CL1.out _).mono ?_
      rintro e w1 ⟨rfl,rfl⟩
      go_wp2_with fail
      go_meet
      case rel=>exact ⟨⟨dn,yn,rfl,rfl,by omega,by omega⟩,rfl⟩
     ·obtain ⟨d6,hd6⟩:∃ d6,d6=dn - 366:=⟨_,rfl⟩
      have y2:IntKind.i64.wrap ((dn:Int) - 366)=(d6:Int):=(IntWalk.i64_in _ (by omega)).trans (by omega)
      have HN:Hid (d6+(yn+1)≤2934867∧d6 < dn):=by show _∧_;omega
      clear hd6
      go_wp2_with fail
      refine (CL1.out _).mono ?_
      rintro e w1 ⟨rfl,rfl⟩
      go_wp2_with fail
      go_roundw
      case rel=>exact ⟨⟨d6,yn+1,rfl,by simp,HN.out.1⟩,by first|trivial|rfl⟩
      case measure=>have:=HN.out;simp [intOf];omega
    | false=>
     obtain ⟨d6,hd6⟩:∃ d6,d6=dn - 365:=⟨_,rfl⟩
     have y2:IntKind.i64.wrap ((dn:Int) - 365)=(d6:Int):=(IntWalk.i64_in _ (by omega)).trans (by omega)
     have HN:Hid (d6+(yn+1)≤2934867∧d6 < dn):=by show _∧_;omega
     have h5:¬ dn < 365:=by omega
     clear hd6
     go_wp2_with fail
     refine (CL1.out _).mono ?_
     rintro e w1 ⟨rfl,rfl⟩
     go_wp2_with fail
     go_roundw
     case rel=>exact ⟨⟨d6,yn+1,rfl,by simp,HN.out.1⟩,by first|trivial|rfl⟩
     case measure=>have:=HN.out;simp [intOf];omega
   ·go_wp2_with fail
    go_meet
    case rel=>exact ⟨⟨dn,yn,rfl,rfl,by omega,by omega⟩,rfl⟩
 obtain ⟨⟨d1,y1,rfl,rfl,hd1,hy1⟩,rfl⟩:=hcut
 clear s1 s3 r1 h0 h1 hd9
 go_wp2_with fail
 go_loopw [4,7] (fun d m wr=>(∃ dn mn:Nat,d=.int .i64 (dn:Nat)∧m=.int .i64 (mn:Nat)∧dn+mn≤400)∧wr=wc) (fun d _ _=>(intOf d).toNat)
 case atStart=>exact ⟨⟨d1,1,rfl,rfl,by omega⟩,rfl⟩
 case round=>
  obtain ⟨⟨dn,mn,rfl,rfl,hb⟩,rfl⟩:=hrel
  have CD1:=Lib.hid (fun W=>CD.out (y1:Int) (mn:Int) W)
  have hbd:=daysN_bd (y1:Int) (mn:Int)
  obtain ⟨q,hq⟩:∃ q:Nat,daysN (y1:Int) (mn:Int)=(q:Int):=⟨(daysN (y1:Int) (mn:Int)).toNat,by omega⟩
  rw [hq] at CD1 hbd
  clear hq
  by_cases hlt:q≤dn
  ·obtain ⟨d6,hd6⟩:∃ d6,d6=dn - q:=⟨_,rfl⟩
   have t2:IntKind.i64.wrap ((dn:Int) - (q:Int))=(d6:Int):=(IntWalk.i64_in _ (by omega)).trans (by omega)
   have t1:IntKind.i64.wrap ((mn:Int)+1)=((mn+1:Nat):Int):=(IntWalk.i64_in _ (by omega)).trans (by omega)
   have HN:Hid (d6+(mn+1)≤400∧d6 < dn):=by show _∧_;omega
   clear hd6
   go_wp2_with fail
   refine (CD1.out _).mono ?_
   rintro e w1 ⟨rfl,rfl⟩
   go_wp2_with fail
   refine (CD1.out _).mono ?_
   rintro e w1 ⟨rfl,rfl⟩
   go_wp2_with fail
   go_roundw
   case rel=>exact ⟨⟨d6,mn+1,rfl,by simp,HN.out.1⟩,by first|trivial|rfl⟩
   case measure=>have:=HN.out;simp [intOf];omega
  ·go_wp2_with fail
   refine (CD1.out _).mono ?_
   rintro e w1 ⟨rfl,rfl⟩
   have CP:Hid (∀ v n:Nat,v < 9223372036854775808→n≤20→∀ W:World,Calls Tryz.prog 107 #[.int .i64 (v:Nat),.int .i64 (n:Nat)] W fun e w'=>(∃ b,e=.returned (.string b)∧AscS 20 b)∧Below W.heap.size W w'):=fun v n h1 h2 W=>(pad_calls v n h1 h2 W).mono fun e w' h=>⟨by obtain ⟨b,e1,e2⟩:=h.1;exact ⟨b,e1,AscS.dig e2⟩,h.2⟩
   clear CD1 CD CL hbd
   obtain ⟨dd,v1,hdd⟩:=dd_facts dn (by omega)
   obtain ⟨⟨x1,u1,g1,g1',k1⟩,⟨x2,x3,u2,u3,g2,g3,g2',g3',k3⟩,⟨x4,x5,u4,u5,g4,g5,g4',g5',k5⟩,⟨x6,u6,g6,g6',k6⟩⟩:=tm_facts l0 hl9
   have hym:y1 < 9223372036854775808∧mn < 9223372036854775808:=by clear u1 u2 u3 u4 u5 u6 g1 g2 g3 g4 g5 g6 g1' g2' g3' g4' g5' g6';omega
   have HNN:Hid (y1 < 9223372036854775808∧mn < 9223372036854775808∧dd < 9223372036854775808∧x1 < 9223372036854775808∧x3 < 9223372036854775808∧x5 < 9223372036854775808∧x6 < 9223372036854775808):=⟨hym.1,hym.2,hdd,k1,k3,k5,k6⟩
   have A45:Hid (AscS 1 ⟨#[45]⟩):=⟨fun c hc=>by
    obtain rfl:c=45:=by simpa [sl] using hc
    decide,by simp [ByteArray.size]⟩
   have A58:Hid (AscS 1 ⟨#[58]⟩):=⟨fun c hc=>by
    obtain rfl:c=58:=by simpa [sl] using hc
    decide,by simp [ByteArray.size]⟩
   have A84:Hid (AscS 1 ⟨#[84]⟩):=⟨fun c hc=>by
    obtain rfl:c=84:=by simpa [sl] using hc
    decide,by simp [ByteArray.size]⟩
   have A46:Hid (AscS 1 ⟨#[46]⟩):=⟨fun c hc=>by
    obtain rfl:c=46:=by simpa [sl] using hc
    decide,by simp [ByteArray.size]⟩
   have A90:Hid (AscS 1 ⟨#[90]⟩):=⟨fun c hc=>by
    obtain rfl:c=90:=by simpa [sl] using hc
    decide,by simp [ByteArray.size]⟩
   clear hym hdd k1 k3 k5 k6 hb hd1 hy1 hl9
   have HW0:Hid (Below wr.heap.size wr wr):=Below.refl _ _
   go_wp2_with fail
   refine (CP.out y1 4 HNN.out.1 (by decide) _).mono ?_
   rintro e p0w ⟨⟨p0,rfl,hp0⟩,hbp0⟩
   have Hp0:=Lib.hid hp0
   have p0s:=hp0.2
   have HWp0:Hid (Below wr.heap.size wr p0w):=HW0.out.trans (hbp0.mono HW0.out.size)
   clear hp0 hbp0
   have lp0:¬ 9223372036854775807 < p0.size+1:=sz1 20 p0s (by decide)
   obtain ⟨s0,hs0⟩:∃ s,p0++(⟨#[45]⟩:ByteArray)=s:=⟨_,rfl⟩
   have HS0:Hid (AscS 21 s0):=by rw [← hs0];exact Hp0.out.app A45.out (by decide)
   have z0:=HS0.out.2
   go_wp2_with fail
   refine (CP.out mn 2 HNN.out.2.1 (by decide) _).mono ?_
   rintro e p1w ⟨⟨p1,rfl,hp1⟩,hbp1⟩
   have Hp1:=Lib.hid hp1
   have p1s:=hp1.2
   have HWp1:Hid (Below wr.heap.size wr p1w):=HWp0.out.trans (hbp1.mono HWp0.out.size)
   clear hp1 hbp1
   have lp1:¬ 9223372036854775807 < s0.size+p1.size:=sz2 _ _ z0 p1s (by decide)
   obtain ⟨t1,ht1⟩:∃ s,s0++p1=s:=⟨_,rfl⟩
   have HT1:Hid (AscS 41 t1):=by rw [← ht1];exact HS0.out.app Hp1.out (by decide)
   have y1:=HT1.out.2
   have mp1:¬ 9223372036854775807 < t1.size+1:=sz1 _ y1 (by decide)
   obtain ⟨s1,hs1⟩:∃ s,t1++(⟨#[45]⟩:ByteArray)=s:=⟨_,rfl⟩
   have HS1:Hid (AscS 42 s1):=by rw [← hs1];exact HT1.out.app A45.out (by decide)
   have z1:=HS1.out.2
   go_wp2_with fail
   refine (CP.out dd 2 HNN.out.2.2.1 (by decide) _).mono ?_
   rintro e p2w ⟨⟨p2,rfl,hp2⟩,hbp2⟩
   have Hp2:=Lib.hid hp2
   have p2s:=hp2.2
   have HWp2:Hid (Below wr.heap.size wr p2w):=HWp1.out.trans (hbp2.mono HWp1.out.size)
   clear hp2 hbp2
   have lp2:¬ 9223372036854775807 < s1.size+p2.size:=sz2 _ _ z1 p2s (by decide)
   obtain ⟨t2,ht2⟩:∃ s,s1++p2=s:=⟨_,rfl⟩
   have HT2:Hid (AscS 62 t2):=by rw [← ht2];exact HS1.out.app Hp2.out (by decide)
   have y2:=HT2.out.2
   have mp2:¬ 9223372036854775807 < t2.size+1:=sz1 _ y2 (by decide)
   obtain ⟨s2,hs2⟩:∃ s,t2++(⟨#[84]⟩:ByteArray)=s:=⟨_,rfl⟩
   have HS2:Hid (AscS 63 s2):=by rw [← hs2];exact HT2.out.app A84.out (by decide)
   have z2:=HS2.out.2
   go_wp2_with fail
   refine (CP.out x1 2 HNN.out.2.2.2.1 (by decide) _).mono ?_
   rintro e p3w ⟨⟨p3,rfl,hp3⟩,hbp3⟩
   have Hp3:=Lib.hid hp3
   have p3s:=hp3.2
   have HWp3:Hid (Below wr.heap.size wr p3w):=HWp2.out.trans (hbp3.mono HWp2.out.size)
   clear hp3 hbp3
   have lp3:¬ 9223372036854775807 < s2.size+p3.size:=sz2 _ _ z2 p3s (by decide)
   obtain ⟨t3,ht3⟩:∃ s,s2++p3=s:=⟨_,rfl⟩
   have HT3:Hid (AscS 83 t3):=by rw [← ht3];exact HS2.out.app Hp3.out (by decide)
   have y3:=HT3.out.2
   have mp3:¬ 9223372036854775807 < t3.size+1:=sz1 _ y3 (by decide)
   obtain ⟨s3,hs3⟩:∃ s,t3++(⟨#[58]⟩:ByteArray)=s:=⟨_,rfl⟩
   have HS3:Hid (AscS 84 s3):=by rw [← hs3];exact HT3.out.app A58.out (by decide)
   have z3:=HS3.out.2
   go_wp2_with fail
   refine (CP.out x3 2 HNN.out.2.2.2.2.1 (by decide) _).mono ?_
   rintro e p4w ⟨⟨p4,rfl,hp4⟩,hbp4⟩
   have Hp4:=Lib.hid hp4
   have p4s:=hp4.2
   have HWp4:Hid (Below wr.heap.size wr p4w):=HWp3.out.trans (hbp4.mono HWp3.out.size)
   clear hp4 hbp4
   have lp4:¬ 9223372036854775807 < s3.size+p4.size:=sz2 _ _ z3 p4s (by decide)
   obtain ⟨t4,ht4⟩:∃ s,s3++p4=s:=⟨_,rfl⟩
   have HT4:Hid (AscS 104 t4):=by rw [← ht4];exact HS3.out.app Hp4.out (by decide)
   have y4:=HT4.out.2
   have mp4:¬ 9223372036854775807 < t4.size+1:=sz1 _ y4 (by decide)
   obtain ⟨s4,hs4⟩:∃ s,t4++(⟨#[58]⟩:ByteArray)=s:=⟨_,rfl⟩
   have HS4:Hid (AscS 105 s4):=by rw [← hs4];exact HT4.out.app A58.out (by decide)
   have z4:=HS4.out.2
   go_wp2_with fail
   refine (CP.out x5 2 HNN.out.2.2.2.2.2.1 (by decide) _).mono ?_
   rintro e p5w ⟨⟨p5,rfl,hp5⟩,hbp5⟩
   have Hp5:=Lib.hid hp5
   have p5s:=hp5.2
   have HWp5:Hid (Below wr.heap.size wr p5w):=HWp4.out.trans (hbp5.mono HWp4.out.size)
   clear hp5 hbp5
   have lp5:¬ 9223372036854775807 < s4.size+p5.size:=sz2 _ _ z4 p5s (by decide)
   obtain ⟨t5,ht5⟩:∃ s,s4++p5=s:=⟨_,rfl⟩
   have HT5:Hid (AscS 125 t5):=by rw [← ht5];exact HS4.out.app Hp5.out (by decide)
   have y5:=HT5.out.2
   by_cases hx6:x6=0
   ·subst hx6
    have l9:¬ 9223372036854775807 < t5.size+1:=sz1 _ y5 (by decide)
    have HF:Hid (AscS 150 (t5++(⟨#[90]⟩:ByteArray))):=HT5.out.app A90.out (by decide)
    go_wp2_with fail
    refine bodyPost_ret (v:=.tuple #[.string (t5++(⟨#[90]⟩:ByteArray)),.bool true]) (by simp [results,Tryz.results96,go_sem]) rfl ?_
    exact ⟨⟨_,_,rfl,HF.out⟩,HWp5.out⟩
   ·have d6:((x6:Int) != 0)=true:=by simp [hx6]
    clear hx6
    have l7:¬ 9223372036854775807 < t5.size+1:=sz1 _ y5 (by decide)
    obtain ⟨s6,hs6⟩:∃ s,t5++(⟨#[46]⟩:ByteArray)=s:=⟨_,rfl⟩
    have HS6:Hid (AscS 126 s6):=by rw [← hs6];exact HT5.out.app A46.out (by decide)
    have z6:=HS6.out.2
    go_wp2_with fail
    refine (CP.out x6 3 HNN.out.2.2.2.2.2.2 (by decide) _).mono ?_
    rintro e p6w ⟨⟨p6,rfl,hp6⟩,hbp6⟩
    have Hp6:=Lib.hid hp6
    have p6s:=hp6.2
    have HWp6:Hid (Below wr.heap.size wr p6w):=HWp5.out.trans (hbp6.mono HWp5.out.size)
    clear hp6 hbp6
    have l8:¬ 9223372036854775807 < s6.size+p6.size:=sz2 _ _ z6 p6s (by decide)
    obtain ⟨t6,ht6⟩:∃ s,s6++p6=s:=⟨_,rfl⟩
    have HT6:Hid (AscS 146 t6):=by rw [← ht6];exact HS6.out.app Hp6.out (by decide)
    have y6:=HT6.out.2
    have l9:¬ 9223372036854775807 < t6.size+1:=sz1 _ y6 (by decide)
    have HF:Hid (AscS 150 (t6++(⟨#[90]⟩:ByteArray))):=HT6.out.app A90.out (by decide)
    go_wp2_with fail
    refine bodyPost_ret (v:=.tuple #[.string (t6++(⟨#[90]⟩:ByteArray)),.bool true]) (by simp [results,Tryz.results96,go_sem]) rfl ?_
    exact ⟨⟨_,_,rfl,HF.out⟩,HWp6.out⟩
def NgO (n:Int) (b:ByteArray):Prop:=AllD (sl b)∧((b.size:Int)=n∨(n < 0∧b.size=0))
def NgRel (n:Int) (s i:Value):Prop:=∃ (b:ByteArray) (k:Int),s=.string b∧i=.int .i64 k∧AllD (sl b)∧0≤k∧(b.size:Int)=k∧(k≤n∨k=0)
set_option maxRecDepth 100000 in
set_option maxHeartbeats 4000000 in
theorem noughts_calls (n:Int) (h1:-100000≤n) (h2:n≤100000) (w:World):Calls Tryz.prog 111 #[.int .i64 n] w fun e w'=>(∃ b,e=.returned (.string b)∧NgO n b)∧w=w':=by
 have H0:Hid (NgRel n (.string ⟨#[]⟩) (.int .i64 0)):=⟨_,0,rfl,rfl,fun c hc=>by simp [sl] at hc,by omega,by simp [ByteArray.size],by omega⟩
 go_enter Tryz.func111,Tryz.ntmps111
 go_wp2_with fail
 go_loopw [3,4] (fun s i wr=>Hid (NgRel n s i)∧wr=w) (fun _ i _=>(n - intOf i).toNat)
 case atStart=>exact ⟨H0,rfl⟩
 case round=>
  obtain ⟨⟨b,k,rfl,rfl,hd,hk0,hbk,hkn⟩,rfl⟩:=hrel
  have HD:=Lib.hid hd
  clear hd
  by_cases hlt:k < n
  ·have hlen:¬ 9223372036854775807 < b.size+1:=by omega
   have b1:IntKind.i64.wrap (k+1)=k+1:=IntWalk.i64_in _ (by omega)
   have HN:Hid (NgRel n (.string (b++⟨#[48]⟩)) (.int .i64 (k+1))):=by
    refine ⟨_,k+1,rfl,rfl,?_,by omega,?_,by omega⟩
    ·rw [sl_plus];exact AllD.append HD.out (AllD.zeros 1)
    ·rw [ByteArray.size_append];show ((_+1:Nat):Int)=_;omega
   go_wp2_with fail
   go_roundw
   case rel=>exact ⟨HN,by first|trivial|rfl⟩
   case measure=>simp [intOf];omega
  ·have HE:Hid ((b.size:Int)=n∨(n < 0∧b.size=0)):=by show _∨_;omega
   go_wp2_with fail
   go_ret
   exact ⟨⟨b,rfl,HD.out,HE.out⟩,rfl⟩
theorem toList_slW (s:ByteArray):s.toList=sl s:=by rw [ByteArray.toList_eq];rfl
def WtRel (w:World) (g:Nat) (s:Value) (W:World):Prop:=
 ∃ (b:ByteArray) (h l k:Nat),s=.string b∧h < 18446744073709551616∧l < 18446744073709551616∧h * 18446744073709551616+l < 10 ^ k∧b.size+k≤40∧AllD (sl b)∧((sl b).isEmpty=true→1≤k) ∧
  W.cell? ⟨g,0,none⟩=some (.int .u64 (h:Nat))∧W.cell? ⟨g,1,none⟩=some (.int .u64 (l:Nat))∧ArrI W g 2∧Below w.heap.size w W
def wtMZ (g:Nat) (s:Value) (W:World):Nat:=
 (match W.cell? ⟨g,0,none⟩ with|some (.int _ x)=>x.toNat|_=>0) * 18446744073709551616+(match W.cell? ⟨g,1,none⟩ with|some (.int _ x)=>x.toNat|_=>0)+(match s with|.string b=>if (sl b).isEmpty then 1 else 0|_=>0)
set_option maxRecDepth 100000 in
set_option maxHeartbeats 8000000 in
theorem wtext_calls (h l:Nat) (hh:h < 18446744073709551616) (hl:l < 18446744073709551616) (w:World):Calls Tryz.prog 110 #[.agg #[.int .u64 (h:Nat),.int .u64 (l:Nat)]] w fun e w'=>(∃ b,e=.returned (.string b)∧AllD (sl b)∧1≤b.size∧b.size≤45)∧Below w.heap.size w w':=by
 have CD:=Lib.hid (fun h l hh hl W=>div_calls h l hh hl W)
 go_enter Tryz.func110,Tryz.ntmps110
 go_wp2_with fail
 obtain ⟨wb,hwb⟩:∃ W,W=w.alloc (.cells #[.int .u64 (h:Nat),.int .u64 (l:Nat)] 147):=⟨_,rfl⟩
 rw [← hwb]
 obtain ⟨g,hg⟩:∃ g,w.heap.size=g:=⟨_,rfl⟩
 have H0:Hid (WtRel w g (.string ⟨#[]⟩) wb):=by
  refine ⟨_,h,l,39,rfl,hh,hl,by omega,by simp [ByteArray.size],fun c hc=>by simp [sl] at hc,by omega,?_,?_,?_,?_⟩
  ·rw [hwb,← hg];simp [go_sem]
  ·rw [hwb,← hg];simp [go_sem]
  ·intro j hj
   rw [hwb,← hg]
   rcases (by omega:j=0∨j=1) with rfl|rfl
   ·exact ⟨⟨(h:Nat),by simp [go_sem]⟩,by simp [go_sem]⟩
   ·exact ⟨⟨(l:Nat),by simp [go_sem]⟩,by simp [go_sem]⟩
  ·rw [hwb];exact (Below.refl _ _).alloc (Nat.le_refl _) _
 have HG:Hid (w.heap.size≤g):=by rw [hg];exact Nat.le_refl _
 rw [hg]
 clear hwb hg hh hl
 go_loopw [3,4,5,6] (fun s _ _ _ wr=>Hid (WtRel w g s wr)) (fun s _ _ _ wr=>wtMZ g s wr)
 case atStart=>exact H0
 case round=>
  obtain ⟨b,x,y,k,rfl,hx,hy,hk,hbk,hd,hbz,c0,c1,a1,hB⟩:=hrel
  have HA:=Lib.hid (show ArrI wr g 2∧Below w.heap.size w wr from ⟨a1,hB⟩)
  have HD:=Lib.hid hd
  clear a1 hB hd
  obtain ⟨C,hC⟩:∃ C,C=(decide (0 < x∨9 < y) || (sl b).isEmpty):=⟨_,rfl⟩
  go_upto_region 2 with fail
  go_cut [18] from 7 to 32 (fun p W=>p=.bool C∧W=wr)
  case first=>
   by_cases h1:0 < x
   ·have hc9:C=true:=by rw [hC];simp [h1]
    have k1:(0:Int) < (x:Int):=by omega
    clear hC
    go_wp2_with fail
    go_meet
    case rel=>exact ⟨by rw [hc9],rfl⟩
   have k1:¬ (0:Int) < (x:Int):=by omega
   by_cases h2:9 < y
   ·have hc9:C=true:=by rw [hC];simp [h2]
    have k2:(9:Int) < (y:Int):=by omega
    clear hC h1
    go_wp2_with fail
    go_meet
    case rel=>exact ⟨by rw [hc9],rfl⟩
   have k2:¬ (9:Int) < (y:Int):=by omega
   have k3:b.toList.isEmpty=(sl b).isEmpty:=by rw [toList_slW]
   have hc9:C=(sl b).isEmpty:=by rw [hC];simp;omega
   obtain ⟨E,hE⟩:∃ E,(sl b).isEmpty=E:=⟨_,rfl⟩
   rw [hE] at k3 hc9
   clear hC h1 h2 hbz hE
   cases E with
   | true=>
    go_wp2_with fail
    go_meet
    case rel=>exact ⟨by rw [hc9],rfl⟩
   | false=>
    go_wp2_with fail
    go_meet
    case rel=>exact ⟨by rw [hc9],rfl⟩
  obtain ⟨rfl,rfl⟩:=hcut
  have HC:=Lib.hid hC
  have HBZ:=Lib.hid hbz
  have HK:=Lib.hid hk
  clear hC hbz hk
  cases C with
  | true=>
   obtain ⟨V,hV⟩:∃ V,x * 18446744073709551616+y=V:=⟨_,rfl⟩
   have CD1:=Lib.hid (fun W=>CD.out x y hx hy W)
   rw [hV] at CD1
   have HKV:Hid (V < 10 ^ k):=by have:=HK.out;rwa [hV] at this
   have hVb:V < 340282366920938463463374607431768211456:=by omega
   obtain ⟨Q,hQ⟩:∃ Q,V / 10=Q:=⟨_,rfl⟩
   obtain ⟨r,hr⟩:∃ r,V % 10=r:=⟨_,rfl⟩
   obtain ⟨q1,hq1⟩:∃ q,Q / 18446744073709551616=q:=⟨_,rfl⟩
   obtain ⟨q2,hq2⟩:∃ q,Q % 18446744073709551616=q:=⟨_,rfl⟩
   rw [hQ,hr,hq1,hq2] at CD1
   have hr10:r < 10:=by omega
   obtain ⟨s,hs⟩:∃ s,s=48+r:=⟨_,rfl⟩
   have e1:IntKind.u64.wrap (48+(r:Int))=(s:Int):=by rw [IntKind.wrap_u64];omega
   have e2:IntKind.u8.wrap (s:Int)=(s:Int):=by rw [IntKind.wrap_u8];omega
   have hk1:1≤k:=by
    have h:=HC.out
    rcases Nat.eq_zero_or_pos k with h0|h0
    ·exfalso
     rw [h0] at HKV
     have hV0:V < 1:=HKV.out
     rcases Bool.or_eq_true _ _ ▸ h.symm with h5|h5
     ·have:=of_decide_eq_true h5;omega
     ·have:=HBZ.out h5;omega
    ·exact h0
   have HNX:Hid (q1 < 18446744073709551616∧q2 < 18446744073709551616∧q1 * 18446744073709551616+q2 < 10 ^ (k - 1)∧q1 * 18446744073709551616+q2=Q):=by
    have h5:q1 * 18446744073709551616+q2=Q:=by rw [← hq1,← hq2,Nat.mul_comm];exact Nat.div_add_mod Q _
    have hQ9:Q < 18446744073709551616 * 18446744073709551616:=by rw [← hQ];exact Nat.lt_of_le_of_lt (Nat.div_le_self _ _) hVb
    refine ⟨by rw [← hq1];exact Nat.div_lt_of_lt_mul hQ9,by rw [← hq2];exact Nat.mod_lt _ (by decide),?_,h5⟩
    rw [h5,← hQ,Nat.div_lt_iff_lt_mul (by omega),← Nat.pow_succ,show (k - 1).succ=k by omega]
    exact HKV.out
   have HSZ:Hid (dig (UInt8.ofNat s)=true):=by show _=true;rw [hs];exact dig_ofNat hr10
   have HME:Hid (Q < V∨V=0):=by show _∨_;omega
   have hs256:s < 256:=by omega
   have HV:=Lib.hid hV
   have HQ0:=Lib.hid hQ
   clear hV hVb hQ hr hq1 hq2 hs hr10
   go_wp2_with fail
   refine (CD1.out _).mono ?_
   rintro e w5 ⟨rfl,hb5⟩
   have hA5:=HA.out.1.keep hb5
   obtain ⟨⟨z0,c0'⟩,f0⟩:=hA5 0 (by omega)
   obtain ⟨⟨z1,c1'⟩,f1⟩:=hA5 1 (by omega)
   have hgl:g < w5.heap.size:=hA5.lt (by omega)
   have hA6:ArrI (w5.alloc (.cells #[.int .u64 (q1:Nat),.int .u64 (q2:Nat)] 147)) g 2:=hA5.keep ((Below.refl _ _).alloc (Nat.le_refl _) _)
   obtain ⟨w6,hw6⟩:∃ W,W=w5.alloc (.cells #[.int .u64 (q1:Nat),.int .u64 (q2:Nat)] 147):=⟨_,rfl⟩
   rw [← hw6] at hA6
   have h56:Below w5.heap.size w5 w6:=by rw [hw6];exact (Below.refl _ _).alloc (Nat.le_refl _) _
   obtain ⟨g6,hg6⟩:∃ x,w5.heap.size=x:=⟨_,rfl⟩
   have d0:w6.cell? ⟨g6,0,none⟩=some (.int .u64 (q1:Nat)):=by rw [hw6,← hg6];simp [go_sem]
   have d1:w6.cell? ⟨g6,1,none⟩=some (.int .u64 (q2:Nat)):=by rw [hw6,← hg6];simp [go_sem]
   go_upto_region 4 with fail
   rw [← hw6]
   have l6:g6 < w6.heap.size:=by rw [hw6,← hg6];simp
   have lg:g < w6.heap.size:=hA6.lt (by omega)
   have n6:¬ g=g6:=by omega
   have n6':¬ g6=g:=by omega
   obtain ⟨⟨y0,p0⟩,o0⟩:=hA6 0 (by omega)
   obtain ⟨⟨y1,p1⟩,o1⟩:=hA6 1 (by omega)
   have hcv:=conv_str (rdB_one w6 s hs256) 1
   obtain ⟨d,hd1⟩:∃ d,txt [UInt8.ofNat s]=d:=⟨_,rfl⟩
   rw [hd1] at hcv
   have hsz:d.size=1:=by rw [← hd1];exact txt_size _
   have hlen:¬ 9223372036854775807 < d.size+b.size:=by omega
   have hdl:sl d=[UInt8.ofNat s]:=by rw [← hd1];rfl
   have hC0:=two_cells p0 p1 (.int .u64 (q1:Nat)) (.int .u64 (q2:Nat))
   have hal:Below ((w6.setCell ⟨g,0,none⟩ (.int .u64 (q1:Nat))).setCell ⟨g,1,none⟩ (.int .u64 (q2:Nat))).heap.size ((w6.setCell ⟨g,0,none⟩ (.int .u64 (q1:Nat))).setCell ⟨g,1,none⟩ (.int .u64 (q2:Nat))) (((w6.setCell ⟨g,0,none⟩ (.int .u64 (q1:Nat))).setCell ⟨g,1,none⟩ (.int .u64 (q2:Nat))).alloc (.cells #[.int .u8 (s:Nat)] 5)):=(Below.refl _ _).alloc (Nat.le_refl _) _
   have hC2:(((w6.setCell ⟨g,0,none⟩ (.int .u64 (q1:Nat))).setCell ⟨g,1,none⟩ (.int .u64 (q2:Nat))).alloc (.cells #[.int .u8 (s:Nat)] 5)).cell? ⟨g,0,none⟩=some (.int .u64 (q1:Nat))∧(((w6.setCell ⟨g,0,none⟩ (.int .u64 (q1:Nat))).setCell ⟨g,1,none⟩ (.int .u64 (q2:Nat))).alloc (.cells #[.int .u8 (s:Nat)] 5)).cell? ⟨g,1,none⟩=some (.int .u64 (q2:Nat)):=⟨cell_below hal hC0.1,cell_below hal hC0.2.1⟩
   have hA7:ArrI (((w6.setCell ⟨g,0,none⟩ (.int .u64 (q1:Nat))).setCell ⟨g,1,none⟩ (.int .u64 (q2:Nat))).alloc (.cells #[.int .u8 (s:Nat)] 5)) g 2:=((hA6.set _ _ _).set _ _ _).keep hal
   have hB6:Below w.heap.size w w6:=HA.out.2.trans ((hb5.trans (h56.mono hb5.size)).mono HA.out.2.size)
   have hB7:Below w.heap.size w (((w6.setCell ⟨g,0,none⟩ (.int .u64 (q1:Nat))).setCell ⟨g,1,none⟩ (.int .u64 (q2:Nat))).alloc (.cells #[.int .u8 (s:Nat)] 5)):=((hB6.setCell HG.out _).setCell HG.out _).trans (hal.mono ((hB6.setCell HG.out _).setCell HG.out _).size)
   have HN:Hid (WtRel w g (.string (d++b)) (((w6.setCell ⟨g,0,none⟩ (.int .u64 (q1:Nat))).setCell ⟨g,1,none⟩ (.int .u64 (q2:Nat))).alloc (.cells #[.int .u8 (s:Nat)] 5))):=by
    refine ⟨_,q1,q2,k - 1,rfl,HNX.out.1,HNX.out.2.1,HNX.out.2.2.1,?_,?_,?_,hC2.1,hC2.2,hA7,hB7⟩
    ·rw [ByteArray.size_append,hsz];omega
    ·rw [sl_plus,hdl];exact AllD.append (fun c hc=>by
      obtain rfl:c=UInt8.ofNat s:=by simpa using hc
      rw [← dig_is];exact HSZ.out) HD.out
    ·rw [sl_plus,hdl];simp
   have HME2:Hid (wtMZ g (.string (d++b)) (((w6.setCell ⟨g,0,none⟩ (.int .u64 (q1:Nat))).setCell ⟨g,1,none⟩ (.int .u64 (q2:Nat))).alloc (.cells #[.int .u8 (s:Nat)] 5)) < wtMZ g (.string b) wc):=by
    show _ < _
    have e1:wtMZ g (.string (d++b)) (((w6.setCell ⟨g,0,none⟩ (.int .u64 (q1:Nat))).setCell ⟨g,1,none⟩ (.int .u64 (q2:Nat))).alloc (.cells #[.int .u8 (s:Nat)] 5))=q1 * 18446744073709551616+q2+0:=by
     unfold wtMZ
     rw [hC2.1,hC2.2]
     have:(sl (d++b)).isEmpty=false:=by rw [sl_plus,hdl];rfl
     simp only [this,Int.toNat_natCast];rfl
    have e2:wtMZ g (.string b) wc=x * 18446744073709551616+y+(if (sl b).isEmpty then 1 else 0):=by
     unfold wtMZ
     rw [c0,c1]
     simp only [Int.toNat_natCast]
    rw [e1,e2,HNX.out.2.2.2,HV.out]
    rcases HME.out with h5|h5
    ·split<;>omega
    ·have h6:(sl b).isEmpty=true:=by
      have h:=HC.out
      have hxy:x=0∧y=0:=by have:=HV.out;omega
      rw [hxy.1,hxy.2] at h
      simpa using h.symm
     have hQ0:Q=0:=by have:=HQ0.out;rw [h5] at this;simpa using this.symm
     rw [if_pos h6,hQ0,h5];omega
   clear hw6 hg6 hA5 hA6 hA7 hC2 hB7 hB6 hC0 hal c0 c1 c0' c1' f0 f1 hb5 h56 hd1 hdl hk1 hgl
   go_wp2_with fail
   go_roundw
   case rel=>exact HN
   case measure=>exact HME2.out
  | false=>
   have h:=HC.out
   have hxy:x=0∧y≤9∧(sl b).isEmpty=false:=by
    have h':(decide (0 < x∨9 < y) || (sl b).isEmpty)=false:=h.symm
    rw [Bool.or_eq_false_iff] at h'
    have:=of_decide_eq_false h'.1
    exact ⟨by omega,by omega,h'.2⟩
   obtain ⟨rfl,hy9,hne⟩:=hxy
   have hb1:1≤b.size:=by
    have:=sl_len b
    rcases Nat.eq_zero_or_pos b.size with h0|h0
    ·rw [h0] at this
     rw [List.eq_nil_of_length_eq_zero this] at hne
     simp at hne
    ·exact h0
   clear h hne
   by_cases hy0:0 < y
   ·obtain ⟨s,hs⟩:∃ s,s=48+y:=⟨_,rfl⟩
    have e1:IntKind.u64.wrap (48+(y:Int))=(s:Int):=by rw [IntKind.wrap_u64];omega
    have e2:IntKind.u8.wrap (s:Int)=(s:Int):=by rw [IntKind.wrap_u8];omega
    have hs256:s < 256:=by omega
    have hcv:=conv_str (rdB_one wc s hs256) 1
    obtain ⟨d,hd1⟩:∃ d,txt [UInt8.ofNat s]=d:=⟨_,rfl⟩
    rw [hd1] at hcv
    have hsz:d.size=1:=by rw [← hd1];exact txt_size _
    have hlen:¬ 9223372036854775807 < d.size+b.size:=by omega
    have hdl:sl d=[UInt8.ofNat s]:=by rw [← hd1];rfl
    have HF:Hid (AllD (sl (d++b))∧1≤(d++b).size∧(d++b).size≤45):=by
     refine ⟨?_,?_,?_⟩
     ·rw [sl_plus,hdl];exact AllD.append (fun c hc=>by
       obtain rfl:c=UInt8.ofNat s:=by simpa using hc
       rw [← dig_is,hs];exact dig_ofNat (by omega)) HD.out
     ·rw [ByteArray.size_append];omega
     ·rw [ByteArray.size_append];omega
    have k0:(0:Int) < (y:Int):=by omega
    clear hs hd1 hdl
    go_wp2_with fail
    go_ret
    exact ⟨⟨_,rfl,HF.out⟩,HA.out.2.alloc HA.out.2.size _⟩
   ·have k0:¬ (0:Int) < (y:Int):=by omega
    have HF:Hid (AllD (sl b)∧1≤b.size∧b.size≤45):=⟨HD.out,hb1,by omega⟩
    go_wp2_with fail
    go_ret
    exact ⟨⟨_,rfl,HF.out⟩,HA.out.2⟩
end Go.Proofs.YtmooaepbdmengaaGreatDoor
