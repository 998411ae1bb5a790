/- Parts of the proof of SniffWritten: BoRA, CbT, St, BoRD, StZ. -/
import Derived.Test.YtmooaepbdmengaaGreatDoorZ05
import Derived.Test.YtmooaepbdmengaaGreatDoorZ01
import Derived.Test.YtmooaepbdmengaaGreatDoorZ02
import Derived.Laws.Append
import Derived.Lib.AppendStr
import Derived.Deep.CutRange
import Derived.Deep.RegionHeld3
import Derived.ArgAppend
namespace Go.Proofs.YtmooaepbdmengaaGreatDoor
open Go.RowKit
set_option linter.unusedVariables false
set_option linter.unusedSimpArgs false
set_option maxRecDepth 100000 in
set_option maxHeartbeats 4000000 in
theorem rtext_calls (s:ByteArray) (hs:s.size≤1000000) (w:World) :
  Calls Tryz.prog 54 #[.string s] w (BytesPost w (textB s)):=by
 have C1:=Lib.hid (putLow_yes (s.size+1) 4 (by unfold okSize;omega) (by omega) (by omega) w)
 have e1:IntKind.i64.wrap ((s.size:Int)+1)=(s.size:Int)+1:=IntWalk.i64_in _ (by omega)
 have e2:IntKind.u64.wrap ((s.size:Int)+1)=(s.size:Int)+1:=wrap_u64_of (by omega) (by omega)
 have hsl:=sl_len s
 go_enter Tryz.func54,Tryz.ntmps54
 go_wp2_with fail
 refine C1.out.mono ?_
 rintro e w1 ⟨v1,rfl,ho1,hb1⟩
 have HO1:=Lib.hid ho1
 have HB1:=Lib.hid hb1
 have hs1:=hb1.size
 clear ho1 hb1
 go_wp2_with (at_builtin;refine wpList_appT (v:=v1) (bs:=leBytes 4 (s.size+1)) (t:=s) (B:=w.heap.size) (by rfl) _ _ (by rfl) (by rfl) HO1.out (by rfl) ?o1 ?o2 ?_)
 case o1=>simp [leBytes_length];omega
 case o2=>omega
 intro v2 w2 ho2 hl2
 have HO2:=Lib.hid ho2
 have HL2:=Lib.hid hl2
 have hs2:=hl2.size
 have HB2:=Lib.hid (hl2.below HB1.out hs1 (fun k hk=>(owns_lt HO1.out k hk).1))
 clear ho2 hl2
 go_wp2_with (at_builtin;refine wpList_appB (v:=v2) (bs:=leBytes 4 (s.size+1)++sl s) (sv:=.slice (some ⟨w2.heap.size,0,none⟩) 1 1) (l:=[UInt8.ofNat 0]) (B:=w.heap.size) (by rfl) _ _ (by rfl) (by rfl) (HO2.out.alloc _) (by rfl) (srcB_one w2 0 (by omega)) ?o3 ?o4 ?_)
 case o3=>simp [leBytes_length];omega
 case o4=>simp;omega
 intro v3 w3 ho3 hl3
 have HO3:=Lib.hid ho3
 have HB3:=Lib.hid ((LayF.app hl3).below (HB2.out.alloc (by have:=HB2.out.size;omega) _) (by simp;omega) (fun k hk=>(owns_lt HO2.out k hk).1))
 clear ho3 hl3
 go_wp2_with fail
 go_ret
 exact ⟨_,rfl,by unfold textB;exact HO3.out,HB3.out⟩
theorem srcB_cell {W:World} {g x:Nat} (h:W.cell? ⟨g,0,none⟩=some (.int .u8 (x:Nat))) (hx:x < 256):SrcB W (.slice (some ⟨g,0,none⟩) 1 1) [UInt8.ofNat x]:=by
 refine ⟨some ⟨g,0,none⟩,1,1,rfl,⟨rfl,by omega,fun i hi=>⟨g,0,rfl,?_⟩⟩,by simp⟩
 obtain rfl:i=0:=by omega
 have:x % 256=x:=by omega
 simpa [bAt,this] using h
def St (w:World) (v:Value) (bs:List UInt8) (W:World):Prop:=OwnB W w.heap.size v bs∧Below w.heap.size w W
theorem St.size {w:World} {v:Value} {bs:List UInt8} {W:World} (h:St w v bs W):w.heap.size≤W.heap.size:=h.2.size
theorem St.bel {w:World} {v:Value} {bs:List UInt8} {W:World} (h:St w v bs W):Below w.heap.size w W:=h.2
theorem St.keep {w:World} {v:Value} {bs:List UInt8} {W W':World} (h:St w v bs W) (hb:Below W.heap.size W W'):St w v bs W':=⟨h.1.keep hb,h.2.trans (hb.mono h.size)⟩
theorem St.alloc {w:World} {v:Value} {bs:List UInt8} {W:World} (h:St w v bs W) (ob:Obj):St w v bs (W.alloc ob):=h.keep ((Below.refl _ _).alloc (Nat.le_refl _) ob)
theorem St.drew {w:World} {v:Value} {bs:List UInt8} {W:World} (h:St w v bs W):St w v bs W.drew:=h.keep (Below.refl _ _).drew
theorem St.lay {w:World} {v v':Value} {bs bs':List UInt8} {W W':World} (h:St w v bs W) (ho:OwnB W' w.heap.size v' bs') (hl:LayF W W' v v'):St w v' bs' W':=
 ⟨ho,hl.below h.2 h.size fun k hk=>(owns_lt h.1 k hk).1⟩
theorem below_al {w W:World} (h:Below w.heap.size w W) (ob:Obj):Below w.heap.size w (W.alloc ob):=h.alloc h.size ob
def Zg (W:World) (v:Value) (x g:Nat):Prop:=W.cell? ⟨g,0,none⟩=some (.int .u8 (x:Nat))∧v.ownBlock≠some g
theorem Zg.new {w W:World} {g x:Nat} {v:Value} {bs:List UInt8} (ho:St w v bs W) (hg:g=W.heap.size) (ty:TypeId):Zg (W.alloc (.cells #[.int .u8 (x:Nat)] ty)) v x g:=by
 subst hg
 refine ⟨by simp [go_sem],fun e=>?_⟩
 have:=(owns_lt ho.1 _ e).2
 omega
theorem Zg.new0 {w W:World} {g:Nat} {v:Value} {bs:List UInt8} (ho:St w v bs W) (hg:g=W.heap.size) (ty:TypeId):Zg (W.alloc (.cells #[.int .u8 0] ty)) v 0 g:=Zg.new (x:=0) ho hg ty
theorem Zg.alloc {W:World} {v:Value} {x g:Nat} (h:Zg W v x g) (ob:Obj):Zg (W.alloc ob) v x g:=
 ⟨cell_below ((Below.refl _ _).alloc (Nat.le_refl _) ob) h.1,h.2⟩
theorem Zg.drew {W:World} {v:Value} {x g:Nat} (h:Zg W v x g):Zg W.drew v x g:=⟨h.1,h.2⟩
theorem Zg.lay {W W':World} {v v':Value} {x g:Nat} (hl:LayF W W' v v') (h:Zg W v x g):Zg W' v' x g:=
 ⟨hl.cell h.1 h.2,fun e=>by
  have hlt:g < W.heap.size:=cell_block h.1
  rcases hl.2 g e with h1|h1
  ·exact h.2 h1
  ·omega⟩
theorem Zg.src {W:World} {v:Value} {x g:Nat} (h:Zg W v x g) (hx:x < 256):SrcB W (.slice (some ⟨g,0,none⟩) 1 1) [UInt8.ofNat x]:=srcB_cell h.1 hx
theorem arm_one {w W:World} {ops:Array Oper} {o:Oper} {a:Act} {K:Act→World→Prop} {Q:Exit→Act→World→Prop} {E:Prop} (hgd:o.guard=none) (s y:Operand)
  (ho:o.op=.call { callee:=.builtin .append,args:=#[s,y],argTypes:=#[23,23] })
  {v:Value} {bs:List UInt8} {x g:Nat} (hs:a.eval s=v) (hy:a.eval y=.slice (some ⟨g,0,none⟩) 1 1) (hst:St w v bs W) (hz:Zg W v x g) (hx:x < 256) (hb:bs.length≤90000000000)
  (h:∀ v' W',St w v' (bs++[UInt8.ofNat x]) W'→LayF W W' v v'→K (a.put o.dst v') W'):if Region.wanted o (yielded ops a.tmps)=true then Oper.wp Tryz.prog o a W K Q else E:=
 step_appB hgd s y ho hs hst.1 hy (hz.src hx) (by simp;omega) hst.size fun v' W' h1 h2=>h v' W' (hst.lay h1 (LayF.app h2)) (LayF.app h2)
theorem arm_txt {w W:World} {ops:Array Oper} {o:Oper} {a:Act} {K:Act→World→Prop} {Q:Exit→Act→World→Prop} {E:Prop} (hgd:o.guard=none) (s y:Operand)
  (ho:o.op=.call { callee:=.builtin .append,args:=#[s,y],argTypes:=#[23,9] })
  {v:Value} {bs:List UInt8} {t:ByteArray} (hs:a.eval s=v) (hy:a.eval y=.string t) (hst:St w v bs W) (hb:bs.length+t.size≤90000000000)
  (h:∀ v' W',St w v' (bs++sl t) W'→LayF W W' v v'→K (a.put o.dst v') W'):if Region.wanted o (yielded ops a.tmps)=true then Oper.wp Tryz.prog o a W K Q else E:=by
 have hw:Region.wanted o (yielded ops a.tmps)=true:=by simp [Region.wanted,hgd]
 rw [if_pos hw]
 obtain ⟨v',w',hr,h2,h3⟩:=appT_run hst.1 t (by omega) hst.size o.type
 unfold Oper.wp execOp
 simp only [ho,resolve,invoke,builtin,Sem.run_bind,Sem.run_pure,Result.andThen_ok,List.map_toArray,List.map_cons,List.map_nil,hs,hy,hr]
 exact h v' w' (hst.lay h2 h3) h3
theorem arm_row {w W:World} {ops:Array Oper} {o:Oper} {a:Act} {K:Act→World→Prop} {Q:Exit→Act→World→Prop} {E:Prop} (hgd:o.guard=none) (s y:Operand)
  (ho:o.op=.call { callee:=.builtin .append,args:=#[s,y],argTypes:=#[23,23] })
  {v u:Value} {bs l:List UInt8} (hs:a.eval s=v) (hy:a.eval y=u) (hst:St w v bs W) (hsrc:SrcB W u l) (hb:bs.length+l.length≤90000000000)
  (h:∀ v' W',St w v' (bs++l) W'→LayF W W' v v'→K (a.put o.dst v') W'):if Region.wanted o (yielded ops a.tmps)=true then Oper.wp Tryz.prog o a W K Q else E:=
 step_appB hgd s y ho hs hst.1 hy hsrc (by omega) hst.size fun v' W' h1 h2=>h v' W' (hst.lay h1 (LayF.app h2)) (LayF.app h2)
def RdPost (w:World) (bs:List UInt8) (e:Ending) (w':World):Prop:=∃ v,e=.returned v∧SrcB w' v bs∧Below w.heap.size w w'
def RValSaid (d:Nat):Prop:=∀ t:T,t.wt≤d→t.wt≤90000→∀ (w:World) (c:Array Value),RdT w t c→Calls Tryz.prog 31 #[.agg c] w (RdPost w (valB t))
def RDocSaid (d:Nat):Prop:=∀ f:F,f.wt≤d→f.wt≤90000→∀ (w:World) (a:Option Addr) (n c:Nat),RdKs w a 0 f→f.len=n→n≤9223372036854775807→Calls Tryz.prog 17 #[.slice a n c] w (BytesPost w (docOf (kidsB f)))
def R5 (w:World) (bs:List UInt8) (x:Value) (W:World):Prop:=St w x bs W
def RDRel (w:World) (tot:List UInt8) (kids:F) (x i:Value) (wr:World):Prop:=
 ∃ (j:Nat) (vr:Value) (cur:List UInt8),x=vr∧i=.int .i64 j∧j≤kids.len∧Hid (tot=cur++kidsB (kids.drop j))∧OwnB wr w.heap.size vr cur∧Below w.heap.size w wr
set_option maxRecDepth 100000 in
set_option maxHeartbeats 16000000 in
theorem rdoc_step (d:Nat) (hof:RValSaid d):RDocSaid d:=by
 intro kids hd hw9 w a nk c hks hkl hnk
 have HOF:=Lib.hid hof
 have HKS:=Lib.hid hks
 have HKL:=Lib.hid hkl
 have hkb:=kidsB_len kids
 clear hof hks hkl
 go_enter Tryz.func17,Tryz.ntmps17
 go_wp2_with fail
 go_loopw [3,4] (fun x i wr=>RDRel w (kidsB kids) kids x i wr) (fun _ i _=>nk - (intOf i).toNat)
 case atStart=>exact ⟨0,_,[],rfl,rfl,Nat.zero_le _,by show _=_;simp [F.drop],World.ownsRow_nil _ _ _ _,Below.refl _ _⟩
 case round=>
  obtain ⟨j,vr,cur,hvr,rfl,hj,htot,hown,hB⟩:=hrel
  subst hvr
  rw [HKL.out] at hj
  have HO:=Lib.hid hown
  have HB:=Lib.hid hB
  have hsz:=hB.size
  have hcl:cur.length≤900000:=by have:=congrArg List.length htot.out;simp at this;omega
  clear hown hB
  by_cases hlt:j < nk
  ·obtain ⟨⟨n,tt⟩,hx⟩:=F.get_some kids j (by rw [HKL.out];exact hlt)
   have hwg2:=F.wt_get kids j n tt hx
   have hst:=kidsB_step kids j n tt hx
   obtain ⟨b,o,k',bits',hi',lo',text',more',sub',bs',kids',ab',nb',cb',ak',nk',ck',rfl,rfl,e1,e2,e3,g0,g1,g2,g3,g4,g5,g6,g7,g8,g9⟩:=(HKS.out.at hx).cells
   have E3:=Lib.hid e3
   have hj0:(0:Int)≤(j:Int):=by omega
   have hj1:(j:Int) < (nk:Int):=by omega
   have G0:=Lib.hid g0
   have G1:=Lib.hid g1
   have G2:=Lib.hid g2
   have G3:=Lib.hid g3
   have G4:=Lib.hid g4
   have G5:=Lib.hid g5
   have G6:=Lib.hid g6
   have G7:=Lib.hid g7
   have G8:=Lib.hid g8
   have G9:=Lib.hid g9
   have y0:wr.cell? ⟨b,o+j * 10,none⟩=some (.string n):=cell_below HB.out G0.out
   have y1:wr.cell? ⟨b,o+j * 10+1,none⟩=some (.int .i64 k'):=cell_below HB.out G1.out
   have y2:wr.cell? ⟨b,o+j * 10+2,none⟩=some (.int .u64 (bits':Nat)):=cell_below HB.out G2.out
   have y3:wr.cell? ⟨b,o+j * 10+3,none⟩=some (.int .u64 (hi':Nat)):=cell_below HB.out G3.out
   have y4:wr.cell? ⟨b,o+j * 10+4,none⟩=some (.int .u64 (lo':Nat)):=cell_below HB.out G4.out
   have y5:wr.cell? ⟨b,o+j * 10+5,none⟩=some (.string text'):=cell_below HB.out G5.out
   have y6:wr.cell? ⟨b,o+j * 10+6,none⟩=some (.string more'):=cell_below HB.out G6.out
   have y7:wr.cell? ⟨b,o+j * 10+7,none⟩=some (.int .i64 sub'):=cell_below HB.out G7.out
   have y8:wr.cell? ⟨b,o+j * 10+8,none⟩=some (.slice ab' nb' cb'):=cell_below HB.out G8.out
   have y9:wr.cell? ⟨b,o+j * 10+9,none⟩=some (.slice ak' nk' ck'):=cell_below HB.out G9.out
   have hkd:T.kind (T.mk k' bits' hi' lo' text' more' sub' bs' kids')=k':=rfl
   rw [hkd] at hst
   have hvl:=valB_len (T.mk k' bits' hi' lo' text' more' sub' bs' kids')
   have hnn:n.size≤1000000:=by omega
   obtain ⟨VB,hVB⟩:∃ l,l=valB (T.mk k' bits' hi' lo' text' more' sub' bs' kids'):=⟨_,rfl⟩
   have CV:=Lib.hid (fun W c (h:RdT W (T.mk k' bits' hi' lo' text' more' sub' bs' kids') c)=>HOF.out (T.mk k' bits' hi' lo' text' more' sub' bs' kids') (by omega) (by omega) W c h)
   rw [← hVB] at hst hvl CV
   obtain ⟨x,hx8⟩:∃ x:Nat,x=(k' % 256).toNat:=⟨_,rfl⟩
   have hxu:IntKind.u8.wrap k'=(x:Int):=by rw [IntKind.wrap_u8'];omega
   have hx9:x < 256:=by omega
   have HKB:Hid (UInt8.ofNat x=kindB k'):=by show _=_;rw [hx8];rfl
   have HTN:Hid (kidsB kids=(cur++UInt8.ofNat x::(sl n++0::VB))++kidsB (kids.drop (j+1))):=by
    show _=_
    rw [htot.out,hst,HKB.out]
    simp
   have hnl:=sl_len n
   clear hx hst e3 e1 e2 g0 g1 g2 g3 g4 g5 g6 g7 g8 g9 hVB hx8
   clear y2 y3 y4 y5 y6 y7 y8 y9
   have HKP:Hid (∀ W,Below w.heap.size w W→W.cell? ⟨b,o+j * 10,none⟩=some (.string n)∧W.cell? ⟨b,o+j * 10+1,none⟩=some (.int .i64 k')):=fun W hW=>⟨cell_below hW G0.out,cell_below hW G1.out⟩
   have HS0:Hid (St w u3 cur wr):=⟨HO.out,HB.out⟩
   go_upto_region 5 with fail
   go_cut [3] from 11 to 28 (fun x3 W=>R5 w (cur++[UInt8.ofNat x]++sl n++[UInt8.ofNat 0]) x3 W)
   case first=>
    go_region_held3 (fun W=>W.cell? ⟨b,o+j * 10,none⟩=some (.string n)∧W.cell? ⟨b,o+j * 10+1,none⟩=some (.int .i64 k')) ((with_reducible refine HKP.out _ ?_;(repeat' (first|with_reducible exact HS3.out.bel|with_reducible exact HS2.out.bel|with_reducible exact HS1.out.bel|with_reducible exact HS0.out.bel|with_reducible refine below_al ?_ _|with_reducible refine Below.drew ?_))))
     ((first
      | (refine arm_one (w:=w) (v:=u3) (bs:=cur) (x:=x) (by rfl) _ _ (by rfl) (by rfl) (by rfl) ?_ ?_ hx9 ?_ ?_;(case _=>(repeat' (first|with_reducible exact HS3.out|with_reducible exact HS2.out|with_reducible exact HS1.out|with_reducible exact HS0.out|with_reducible refine St.alloc ?_ _|with_reducible refine St.drew ?_)));(case _=>(repeat' (first|(with_reducible refine Zg.new (w:=w) (bs:=cur) ?_ ?_ _;(case _=>(repeat' (first|with_reducible exact HS3.out|with_reducible exact HS2.out|with_reducible exact HS1.out|with_reducible exact HS0.out|with_reducible refine St.alloc ?_ _|with_reducible refine St.drew ?_)));(case _=>first|rfl|(simp [World.drew];done)))|with_reducible refine Zg.alloc ?_ _|with_reducible refine Zg.drew ?_)));(case _=>omega);intro v1 w1 hs1 hl1;have HS1:=Lib.hid hs1;have HL1:=Lib.hid hl1;clear hs1 hl1)
      | (refine arm_txt (w:=w) (v:=v1) (bs:=cur++[UInt8.ofNat x]) (t:=n) (by rfl) _ _ (by rfl) (by rfl) (by rfl) ?_ ?_ ?_;(case _=>(repeat' (first|with_reducible exact HS3.out|with_reducible exact HS2.out|with_reducible exact HS1.out|with_reducible exact HS0.out|with_reducible refine St.alloc ?_ _|with_reducible refine St.drew ?_)));(case _=>simp;omega);intro v2 w2 hs2 hl2;have HS2:=Lib.hid hs2;have HL2:=Lib.hid hl2;clear hs2 hl2)
      | (refine arm_one (w:=w) (v:=v2) (bs:=cur++[UInt8.ofNat x]++sl n) (x:=0) (by rfl) _ _ (by rfl) (by rfl) (by rfl) ?_ ?_ (by omega) ?_ ?_;(case _=>(repeat' (first|with_reducible exact HS3.out|with_reducible exact HS2.out|with_reducible exact HS1.out|with_reducible exact HS0.out|with_reducible refine St.alloc ?_ _|with_reducible refine St.drew ?_)));(case _=>(repeat' (first|(with_reducible refine Zg.new0 (w:=w) (bs:=cur) ?_ ?_ _;(case _=>(repeat' (first|with_reducible exact HS3.out|with_reducible exact HS2.out|with_reducible exact HS1.out|with_reducible exact HS0.out|with_reducible refine St.alloc ?_ _|with_reducible refine St.drew ?_)));(case _=>first|rfl|(simp [World.drew];done)))|(with_reducible refine Zg.new0 (w:=w) (bs:=cur++[UInt8.ofNat x]) ?_ ?_ _;(case _=>(repeat' (first|with_reducible exact HS3.out|with_reducible exact HS2.out|with_reducible exact HS1.out|with_reducible exact HS0.out|with_reducible refine St.alloc ?_ _|with_reducible refine St.drew ?_)));(case _=>first|rfl|(simp [World.drew];done)))|(with_reducible refine Zg.new0 (w:=w) (bs:=cur++[UInt8.ofNat x]++sl n) ?_ ?_ _;(case _=>(repeat' (first|with_reducible exact HS3.out|with_reducible exact HS2.out|with_reducible exact HS1.out|with_reducible exact HS0.out|with_reducible refine St.alloc ?_ _|with_reducible refine St.drew ?_)));(case _=>first|rfl|(simp [World.drew];done)))|with_reducible refine Zg.alloc ?_ _|with_reducible refine Zg.drew ?_|with_reducible refine Zg.lay HL2.out ?_|with_reducible refine Zg.lay HL1.out ?_)));(case _=>simp;omega);intro v3 w3 hs3 hl3;have HS3:=Lib.hid hs3;clear hs3 hl3)
      | fail))
    all_goals
     go_wp2_with fail
     go_meet
     case rel=>exact HS3.out
   have HS3:=Lib.hid hcut
   have HO3:=Lib.hid hcut.1
   have HB3:=Lib.hid hcut.2
   have hs3:=HB3.out.size
   clear hcut
   have y0:wc.cell? ⟨b,o+j * 10,none⟩=some (.string n):=cell_below HB3.out G0.out
   have y1:wc.cell? ⟨b,o+j * 10+1,none⟩=some (.int .i64 k'):=cell_below HB3.out G1.out
   have y2:wc.cell? ⟨b,o+j * 10+2,none⟩=some (.int .u64 (bits':Nat)):=cell_below HB3.out G2.out
   have y3:wc.cell? ⟨b,o+j * 10+3,none⟩=some (.int .u64 (hi':Nat)):=cell_below HB3.out G3.out
   have y4:wc.cell? ⟨b,o+j * 10+4,none⟩=some (.int .u64 (lo':Nat)):=cell_below HB3.out G4.out
   have y5:wc.cell? ⟨b,o+j * 10+5,none⟩=some (.string text'):=cell_below HB3.out G5.out
   have y6:wc.cell? ⟨b,o+j * 10+6,none⟩=some (.string more'):=cell_below HB3.out G6.out
   have y7:wc.cell? ⟨b,o+j * 10+7,none⟩=some (.int .i64 sub'):=cell_below HB3.out G7.out
   have y8:wc.cell? ⟨b,o+j * 10+8,none⟩=some (.slice ab' nb' cb'):=cell_below HB3.out G8.out
   have y9:wc.cell? ⟨b,o+j * 10+9,none⟩=some (.slice ak' nk' ck'):=cell_below HB3.out G9.out
   go_wp2_with fail
   refine (CV.out wc _ (E3.out.keep HB3.out)).mono ?_
   rintro e w4 ⟨v4,rfl,ho4,hb4⟩
   have HO4:=Lib.hid (HO3.out.keep hb4)
   have HS4:=Lib.hid ho4
   have HB4:=Lib.hid (HB3.out.trans (hb4.mono hs3))
   have hs4:=HB4.out.size
   clear y0 y1 y2 y3 y4 y5 y6 y7 y8 y9
   clear ho4 hb4
   go_wp2_with (at_builtin;refine wpList_appB (v:=u3) (bs:=cur++[UInt8.ofNat x]++sl n++[UInt8.ofNat 0]) (sv:=v4) (l:=VB) (B:=w.heap.size) (by rfl) _ _ (by rfl) (by rfl) HO4.out (by rfl) HS4.out ?o7 ?o8 ?_)
   case o7=>simp;omega
   case o8=>omega
   intro v5 w5 ho5 ha5
   have HO5:=Lib.hid ho5
   have HB5:=Lib.hid ((LayF.app ha5).below HB4.out hs4 (fun i hi=>(owns_lt HO3.out i hi).1))
   clear ho5 ha5
   go_wp2_with fail
   go_roundw
   case rel=>exact ⟨j+1,v5,_,rfl,by simp,by rw [HKL.out];omega,HTN,HO5.out,HB5.out⟩
   case measure=>simp [intOf];omega
  ·have hend:=htot.out
   rw [kidsB_end kids j (by rw [HKL.out];omega),List.append_nil] at hend
   subst hend
   obtain ⟨av,cv,rfl,hrv⟩:=HO.out.reads
   have HSV:=Lib.hid HO.out.srcB
   obtain ⟨KL,hKL⟩:∃ x,x=(kidsB kids).length:=⟨_,rfl⟩
   rw [← hKL] at hkb HSV hcl HO
   obtain ⟨M,hM⟩:∃ M,M=KL+5:=⟨_,rfl⟩
   have C1:=Lib.hid (putLow_yes M 4 (by unfold okSize;omega) (by omega) (by omega) wr)
   have e1:IntKind.i64.wrap ((KL:Int)+5)=(M:Int):=(IntWalk.i64_in _ (by omega)).trans (by omega)
   have e2:IntKind.u64.wrap (M:Int)=(M:Int):=wrap_u64_of (by omega) (by omega)
   have HM:=Lib.hid hM
   have HKN:=Lib.hid hKL
   clear hM
   rw [← hKL]
   clear hrv htot hKL
   go_wp2_with fail
   refine C1.out.mono ?_
   rintro e w1 ⟨v1,rfl,ho1,hb1⟩
   have HO1:=Lib.hid (ho1.weaken hsz)
   have HB1:=Lib.hid (HB.out.trans (hb1.mono hsz))
   have HS1:=Lib.hid (HSV.out.keep hb1)
   have hs1:=HB1.out.size
   clear ho1 hb1
   go_wp2_with (at_builtin;refine wpList_appB (v:=v1) (bs:=leBytes 4 M) (sv:=.slice av KL cv) (l:=kidsB kids) (B:=w.heap.size) (by rfl) _ _ (by rfl) (by rfl) HO1.out (by rfl) HS1.out ?o1 ?o2 ?_)
   case o1=>have:=HKN.out;simp [leB_len];omega
   case o2=>omega
   intro v2 w2 ho2 ha2
   have HO2:=Lib.hid ho2
   have HB2:=Lib.hid ((LayF.app ha2).below HB1.out hs1 (fun i hi=>(owns_lt HO1.out i hi).1))
   have hs2:=HB2.out.size
   clear ho2 ha2
   go_wp2_with (at_builtin;refine wpList_appB (v:=v2) (bs:=leBytes 4 M++kidsB kids) (sv:=.slice (some ⟨w2.heap.size,0,none⟩) 1 1) (l:=[UInt8.ofNat 0]) (B:=w.heap.size) (by rfl) _ _ (by rfl) (by rfl) (HO2.out.alloc _) (by rfl) (srcB_one w2 0 (by omega)) ?o3 ?o4 ?_)
   case o3=>have:=HKN.out;simp [leB_len];omega
   case o4=>simp;omega
   intro v3 w3 ho3 ha3
   have HO3:=Lib.hid ho3
   have HB3:=Lib.hid ((LayF.app ha3).below (HB2.out.alloc hs2 _) (by simp;omega) (fun i hi=>(owns_lt HO2.out i hi).1))
   clear ho3 ha3
   go_wp2_with fail
   go_ret
   exact ⟨_,rfl,by unfold docOf;rw [← HKN.out,← HM.out];exact HO3.out,HB3.out⟩
def OwnZ (w:World) (B:Nat) (v:Value) (bs:List UInt8):Prop:=
 ∃ g cap,v=.slice (some ⟨g,0,none⟩) bs.length cap∧B≤g∧bs.length≤cap∧cap≤9223372036854775807∧(∀ j u,(byteCells bs)[j]?=some u→w.cell? ⟨g,j,none⟩=some u)∧∀ j,j < cap→(w.cell? ⟨g,j,none⟩).isSome=true∧w.frozen? ⟨g,j,none⟩=false
theorem add_zero' (g j:Nat):(⟨g,0,none⟩:Addr).add j=⟨g,j,none⟩:=by unfold Addr.add;split<;>simp_all
theorem OwnB.z {w:World} {B:Nat} {v:Value} {bs:List UInt8} (h:OwnB w B v bs) (h0:0 < bs.length):OwnZ w B v bs:=by
 have hcell:=fun g hg=>World.ownsRow.cells h (g:=g) hg
 rcases h.2 with ⟨rfl,e⟩|⟨g,cap,cur,rfl,hB,hg,hnc,hcm,hcs,htake⟩
 ·omega
 ·refine ⟨g,cap,rfl,hB,hnc,hcm,fun j u hu=>?_,fun j hj=>?_⟩
  ·have:=hcell g rfl j u hu
   rwa [add_zero'] at this
  ·have hsz:cur.size=cap:=by simpa using hcs
   constructor
   ·rw [cell_of_row _ g j _ _ _ hg]
    simp [hsz,hj]
   ·unfold World.frozen?
    simp only [hg]
    simp
theorem conv_ownZ (w:World) (s:ByteArray) (hs:s.size≤1048576):∃ cap w',(convert 9 23 (.string s)).run Tryz.prog w=.ok (.slice (some ⟨w.heap.size,0,none⟩) s.size cap) w'∧w.heap.size < w'.heap.size∧Below w.heap.size w w'∧OwnZ w' w.heap.size (.slice (some ⟨w.heap.size,0,none⟩) s.size cap) (sl s):=by
 have hr:=run_bytes_of_string (P:=Tryz.prog) w 9 23 5 s Tryz.underlying9 Tryz.underlying23 Tryz.underlying5
 have hcap:=grownCap_ge w s.size 0 5
 have hcm:=grownCap_le_maxLen w s.size 0 5 (by unfold maxLen;omega)
 generalize grownCap w s.size 0 5=cap at hr hcap hcm
 have hbs:(bytesRow s cap).size=cap:=by unfold bytesRow;simp;omega
 rw [hbs] at hr
 have hn:(w.drew.alloc (.cells (bytesRow s cap) 5 (cap,cap+1))).heap[w.heap.size]?=some (.cells (bytesRow s cap) 5 (cap,cap+1)):=heap_alloc_new w.drew _
 refine ⟨cap,_,hr,by simp,((Below.refl w.heap.size w).drew).alloc (Nat.le_refl _) _,w.heap.size,cap,by rw [sl_len],Nat.le_refl _,by rw [sl_len];exact hcap,hcm,fun j u hu=>?_,fun j hj=>⟨?_,?_⟩⟩
 ·have hj:j < s.size:=by
   have:=(List.getElem?_eq_some_iff.1 hu).1
   rwa [byteCells_length,sl_len] at this
  rw [cell_of_row _ w.heap.size j _ _ _ hn]
  have h1:j < (sl s).length:=by rw [sl_len];exact hj
  have e:(bytesRow s cap)[j]?=some (.int .u8 (((sl s)[j]'h1).toNat:Nat)):=by
   unfold bytesRow
   rw [Array.getElem?_append_left (by simpa using hj)]
   rw [Array.getElem?_map]
   have h2:s.data[j]?=some ((sl s)[j]'h1):=by
    rw [Array.getElem?_eq_getElem (by simpa using hj)]
    rfl
   rw [h2]
   rfl
  rw [e,← hu]
  simp only [byteCells,List.getElem?_map,List.getElem?_eq_getElem h1]
  rfl
 ·rw [cell_of_row _ w.heap.size j _ _ _ hn]
  simp [hbs,hj]
 ·unfold World.frozen?
  simp only [hn]
  simp
  omega
theorem OwnZ.keep {w w':World} {B:Nat} {v:Value} {bs:List UInt8} (h:OwnZ w B v bs) (hb:Below w.heap.size w w') (hl:B≤w.heap.size):OwnZ w' B v bs:=by
 obtain ⟨g,cap,rfl,hB,hnc,hcm,hc,hf⟩:=h
 by_cases h0:cap=0
 ·subst h0
  refine ⟨g,0,rfl,hB,hnc,hcm,fun j u hu=>?_,fun j hj=>by omega⟩
  have:=(List.getElem?_eq_some_iff.1 hu).1
  rw [byteCells_length] at this
  omega
 ·have hg:g < w.heap.size:=by
   have:=(hf 0 (by omega)).1
   obtain ⟨u,hu⟩:=Option.isSome_iff_exists.1 this
   simpa using cell_block hu
  exact ⟨g,cap,rfl,hB,hnc,hcm,fun j u hu=>by rw [hb.cell (p:=⟨g,j,none⟩) hg];exact hc j u hu,fun j hj=>by rw [hb.cell (p:=⟨g,j,none⟩) hg,hb.frozen (p:=⟨g,j,none⟩) hg];exact hf j hj⟩
theorem OwnZ.src {w:World} {B:Nat} {v:Value} {bs:List UInt8} (h:OwnZ w B v bs) (hl:bs.length≤9223372036854775807):SrcB w v bs:=by
 obtain ⟨g,cap,rfl,hB,hnc,hcm,hc,hf⟩:=h
 refine ⟨_,_,_,rfl,⟨rfl,hl,fun i hi=>⟨g,0,rfl,?_⟩⟩,by simp⟩
 rw [Nat.zero_add]
 have hi':i < (byteCells bs).length:=by rw [byteCells_length];exact hi
 rw [hc i _ (List.getElem?_eq_getElem hi')]
 have:=byteCells_at bs i hi
 rw [List.getD_eq_getElem?_getD,List.getElem?_eq_getElem hi'] at this
 exact congrArg some this
theorem setCells_chg (b:Nat):∀ (vs:List Value) (o:Nat) (w:World),Chg (fun k=>k=b) w (w.setCells b o vs)
 | [],_,w=>Chg.refl _ _
 | v::r,o,w=>by
  rw [World.setCells]
  exact ((Chg.refl (fun k=>k=b) w).setCell (p:=⟨b,o,none⟩) (fun _=>rfl) v).trans (setCells_chg b r (o+1) _) (fun _ _ h=>h)
theorem setCells_isSome (b:Nat) (vs:List Value) (o:Nat) (w:World) (j:Nat) (hs:∀ j,j < vs.length→(w.cell? ⟨b,o+j,none⟩).isSome=true) (h:(w.cell? ⟨b,j,none⟩).isSome=true):((w.setCells b o vs).cell? ⟨b,j,none⟩).isSome=true:=by
 by_cases hj:o≤j∧j < o+vs.length
 ·have:=World.cell?_setCells_in b vs o w hs (j - o) (by omega)
  rw [show o+(j - o)=j from by omega] at this
  rw [this]
  rfl
 ·rw [World.cell?_setCells_out b vs o w _ (fun _ _=>by simp;omega)]
  exact h
theorem ownZ_room {w:World} {B g cap:Nat} {bs l:List UInt8} (hB:B≤g) (hcm:cap≤9223372036854775807) (hc:∀ j u,(byteCells bs)[j]?=some u→w.cell? ⟨g,j,none⟩=some u) (hf:∀ j,j < cap→(w.cell? ⟨g,j,none⟩).isSome=true∧w.frozen? ⟨g,j,none⟩=false) (hr:bs.length+l.length≤cap) :
  OwnZ (w.setCells g bs.length (byteCells l)) B (.slice (some ⟨g,0,none⟩) (bs.length+l.length) cap) (bs++l)∧LayF w (w.setCells g bs.length (byteCells l)) (.slice (some ⟨g,0,none⟩) bs.length cap) (.slice (some ⟨g,0,none⟩) (bs.length+l.length) cap):=by
 have hsome:∀ j,j < (byteCells l).length→(w.cell? ⟨g,bs.length+j,none⟩).isSome=true:=fun j hj=>(hf _ (by rw [byteCells_length] at hj;omega)).1
 refine ⟨⟨g,cap,by rw [List.length_append],hB,by rw [List.length_append];exact hr,hcm,fun j u hu=>?_,fun j hj=>⟨?_,?_⟩⟩,⟨?_,fun k hk=>.inl hk⟩⟩
 ·rw [byteCells_append] at hu
  by_cases hj:j < bs.length
  ·rw [List.getElem?_append_left (by rw [byteCells_length];exact hj)] at hu
   rw [World.cell?_setCells_out g _ _ _ _ (fun _ _=>by simp;omega)]
   exact hc j u hu
  ·rw [List.getElem?_append_right (by rw [byteCells_length];omega),byteCells_length] at hu
   have hlt:=(List.getElem?_eq_some_iff.1 hu).1
   have:=World.cell?_setCells_in g (byteCells l) bs.length w hsome (j - bs.length) hlt
   rw [show bs.length+(j - bs.length)=j from by omega] at this
   rw [this,← hu,List.getElem?_eq_getElem hlt]
 ·exact setCells_isSome g _ _ _ j hsome (hf j hj).1
 ·rw [World.frozen?_setCells]
  exact (hf j hj).2
 ·exact (setCells_chg g _ _ _).weaken fun k _ h=>by subst h;rfl
theorem run_append_room_text (w:World) (ty:TypeId) (g sLen sCap:Nat) (s:ByteArray) (hroom:sLen+s.size≤sCap) (hc:∀ j,j < s.size→(w.cell? ⟨g,sLen+j,none⟩).isSome=true) (hf:∀ j,j < s.size→w.frozen? ⟨g,sLen+j,none⟩=false) :
  (Builtin.append_ #[23,9] ty #[.slice (some ⟨g,0,none⟩) sLen sCap,.string s]).run Tryz.prog w=.ok (.slice (some ⟨g,0,none⟩) (sLen+s.size) sCap) (w.setCells g sLen (byteCells (sl s))):=by
 obtain ⟨i0,hi,hz0,hz1,hz2⟩:=info_parts infoU8
 have hfc:=Lib.run_firstCells_string (P:=Tryz.prog) w 1 s
 have hst:=run_storeCells_cells (P:=Tryz.prog) g sLen (Lib.strCells s) 0 w (by simpa [Lib.strCells_length] using hc) (by simpa [Lib.strCells_length] using hf) (Lib.strCells_oneCell s)
 simp only [Nat.add_zero] at hst
 rw [← strCells_bytes']
 simp [Builtin.append_,run_underlying Tryz.underlying23,run_underlying Tryz.underlying9,sizeOf,typeInfo,hi,hz1,Builtin.lenOf,hroom,hfc,Addr.add_lit,hst]
theorem appZ_run {w:World} {B:Nat} {v:Value} {bs:List UInt8} (hown:OwnZ w B v bs) {g2 x:Nat} (hx:x < 256) (hz:w.cell? ⟨g2,0,none⟩=some (.int .u8 (x:Nat))) (hb:bs.length≤90000000000) (hbase:B≤w.heap.size) (ty:TypeId) :
  ∃ v' w',(Builtin.append_ #[23,23] ty #[v,.slice (some ⟨g2,0,none⟩) 1 1]).run Tryz.prog w=.ok v' w'∧OwnZ w' B v' (bs++[UInt8.ofNat x])∧LayF w w' v v':=by
 obtain ⟨i0,hi,hz0,hz1,hz2⟩:=info_parts infoU8
 obtain ⟨g,cap,rfl,hB,hnc,hcm,hc,hf⟩:=hown
 have hbc:byteCells [UInt8.ofNat x]=[.int .u8 (x:Nat)]:=by
  have:x % 256=x:=by omega
  simp [byteCells,this]
 have hnews:∀ j u,(byteCells [UInt8.ofNat x])[j]?=some u→w.cell? ((⟨g2,0,none⟩:Addr).add j)=some u:=by
  intro j u hu
  rw [hbc] at hu
  cases j with
  | zero=>rw [add_zero'];simp at hu;rw [← hu];exact hz
  | succ j=>simp at hu
 by_cases hr:bs.length+1≤cap
 ·have hrun:=run_append_room_cells (P:=Tryz.prog) w 23 ty 5 i0 Tryz.underlying23 hi g 0 bs.length cap ⟨g2,0,none⟩ 1 1 (byteCells [UInt8.ofNat x]) (by rw [byteCells_length,hz1];rfl) hnews (byteCells_one _) hr
   (fun j hj=>by rw [hz1,Nat.zero_add,Nat.mul_one];exact (hf _ (by rw [byteCells_length] at hj;simp at hj;omega)).1)
   (fun j hj=>by rw [hz1,Nat.zero_add,Nat.mul_one];exact (hf _ (by rw [byteCells_length] at hj;simp at hj;omega)).2)
  rw [hz1,Nat.zero_add,Nat.mul_one] at hrun
  exact ⟨_,_,hrun,ownZ_room (l:=[UInt8.ofNat x]) hB hcm hc hf (by simpa using hr)⟩
 ·obtain ⟨v',w',hrun,r1,r2⟩:=run_append_arg_grows (P:=Tryz.prog) w 23 ty 5 i0 (.int .u8 0) 1 1 Tryz.underlying23 hi hz0 hz1 hz2 rfl (by omega) ⟨g,0,none⟩ bs.length cap (byteCells bs) (by rw [byteCells_length];omega) (fun j u hu=>by rw [add_zero'];exact hc j u hu)
   ⟨g2,0,none⟩ 1 1 (byteCells [UInt8.ofNat x]) (by rw [byteCells_length];rfl) hnews (by omega) (by unfold maxLen;omega) (by omega)
  have ho:OwnB w' w.heap.size v' (bs++[UInt8.ofNat x]):=by
   unfold OwnB
   rw [byteCells_append,List.length_append]
   exact r1
  have hoz:=(ho.weaken hbase).z (by simp)
  refine ⟨v',w',hrun,hoz,⟨⟨r2.os,r2.tape,r2.output,r2.size,fun k hk hn=>r2.block k hk (by simp)⟩,fun k hk=>.inr (owns_lt ho k hk).1⟩⟩
theorem appZT_run {w:World} {B:Nat} {v:Value} {bs:List UInt8} (hown:OwnZ w B v bs) (s:ByteArray) (hb:bs.length+s.size≤90000000000) (hbase:B≤w.heap.size) (ty:TypeId) :
  ∃ v' w',(Builtin.append_ #[23,9] ty #[v,.string s]).run Tryz.prog w=.ok v' w'∧OwnZ w' B v' (bs++sl s)∧LayF w w' v v':=by
 obtain ⟨i0,hi,hz0,hz1,hz2⟩:=info_parts infoU8
 obtain ⟨g,cap,rfl,hB,hnc,hcm,hc,hf⟩:=hown
 have hsl:=sl_len s
 by_cases hr:bs.length+s.size≤cap
 ·have hrun:=run_append_room_text w ty g bs.length cap s hr (fun j hj=>(hf _ (by omega)).1) (fun j hj=>(hf _ (by omega)).2)
  have:=ownZ_room (l:=sl s) hB hcm hc hf (by rw [hsl];exact hr)
  rw [hsl] at this
  exact ⟨_,_,hrun,this⟩
 ·have hrun:=Lib.run_append_grow_string (P:=Tryz.prog) w 23 9 ty 5 i0 (.int .u8 0) Tryz.underlying23 Tryz.underlying9 hi hz0 ⟨g,0,none⟩ bs.length cap (byteCells bs) (by rw [hz1,byteCells_length];omega) (fun j u hu=>by rw [add_zero'];exact hc j u hu) s (by omega) (by omega) (by rw [hz2];exact growslice_fits (by omega) (by omega))
  have hge:=grownCap_ge w (bs.length+s.size) cap 5
  have hcm2:=grownCap_le_maxLen w (bs.length+s.size) cap 5 (by unfold maxLen;omega)
  have ho:OwnB (w.drew.alloc (.cells ((byteCells bs).toArray++(Lib.strCells s).toArray++Builtin.zeroCells (Value.int IntKind.u8 0).cells (grownCap w (bs.length+s.size) cap 5 - (bs.length+s.size))) 5)) w.heap.size (.slice (some ⟨w.heap.size,0,none⟩) (bs.length+s.size) (grownCap w (bs.length+s.size) cap 5)) (bs++sl s):=by
   refine ⟨?_,.inr ⟨w.heap.size,grownCap w (bs.length+s.size) cap 5,_,?_,Nat.le_refl _,heap_alloc_new w.drew _,?_,hcm2,?_,?_⟩⟩
   ·rw [byteCells_length];omega
   ·rw [List.length_append,hsl]
   ·rw [List.length_append,hsl];exact hge
   ·have hz:(Value.int IntKind.u8 0).cells.size=1:=rfl
    simp only [Array.size_append,List.size_toArray,size_zeroCells,hz,byteCells_length,Lib.strCells_length]
    omega
   ·have e:(byteCells bs).toArray.toList++(Lib.strCells s).toArray.toList=byteCells (bs++sl s):=by rw [byteCells_append,← strCells_bytes']
    simp only [Array.toList_append,e]
    rw [show (bs++sl s).length * 1=(byteCells (bs++sl s)).length by rw [byteCells_length];omega]
    exact List.take_left
  refine ⟨_,_,hrun,(ho.weaken hbase).z (by rw [List.length_append,hsl];omega),⟨Chg.of_below (((Below.refl _ _).drew).alloc (Nat.le_refl _) _),fun k hk=>.inr (owns_lt ho k hk).1⟩⟩
def StZ (w:World) (v:Value) (bs:List UInt8) (W:World):Prop:=OwnZ W w.heap.size v bs∧Below w.heap.size w W
theorem StZ.size {w:World} {v:Value} {bs:List UInt8} {W:World} (h:StZ w v bs W):w.heap.size≤W.heap.size:=h.2.size
theorem StZ.bel {w:World} {v:Value} {bs:List UInt8} {W:World} (h:StZ w v bs W):Below w.heap.size w W:=h.2
theorem StZ.keep {w:World} {v:Value} {bs:List UInt8} {W W':World} (h:StZ w v bs W) (hb:Below W.heap.size W W'):StZ w v bs W':=⟨h.1.keep hb h.size,h.2.trans (hb.mono h.size)⟩
theorem StZ.alloc {w:World} {v:Value} {bs:List UInt8} {W:World} (h:StZ w v bs W) (ob:Obj):StZ w v bs (W.alloc ob):=h.keep ((Below.refl _ _).alloc (Nat.le_refl _) ob)
theorem StZ.drew {w:World} {v:Value} {bs:List UInt8} {W:World} (h:StZ w v bs W):StZ w v bs W.drew:=h.keep (Below.refl _ _).drew
theorem ownZ_lt {W:World} {B:Nat} {v:Value} {bs:List UInt8} (h:OwnZ W B v bs) (k:Nat) (hk:v.ownBlock=some k):B≤k:=by
 obtain ⟨g,cap,rfl,hB,_⟩:=h
 have:g=k:=Option.some.inj hk
 omega
theorem StZ.lay {w:World} {v v':Value} {bs bs':List UInt8} {W W':World} (h:StZ w v bs W) (ho:OwnZ W' w.heap.size v' bs') (hl:LayF W W' v v'):StZ w v' bs' W':=
 ⟨ho,hl.below h.2 h.size fun k hk=>ownZ_lt h.1 k hk⟩
theorem StZ.conv {w W W':World} (hb:Below w.heap.size w W) (hb2:Below W.heap.size W W') {v:Value} {bs:List UInt8} (ho:OwnZ W' W.heap.size v bs):StZ w v bs W':=by
 obtain ⟨g,cap,e,hB,r⟩:=ho
 exact ⟨⟨g,cap,e,Nat.le_trans hb.size hB,r⟩,hb.trans (hb2.mono hb.size)⟩
theorem Zg.conv {W W':World} {x g:Nat} {v:Value} {bs:List UInt8} (hz:W.cell? ⟨g,0,none⟩=some (.int .u8 (x:Nat))) (hb2:Below W.heap.size W W') (ho:OwnZ W' W.heap.size v bs):Zg W' v x g:=
 ⟨cell_below hb2 hz,fun e=>by have:=ownZ_lt ho g e;have:g < W.heap.size:=cell_block hz;omega⟩
theorem ownB_empty {w:World} {B g:Nat} (h:w.heap[g]?=some (.cells #[] 5 (0,0))) (hB:B≤g):OwnB w B (.slice (some ⟨g,0,none⟩) 0 0) []:=⟨rfl,.inr ⟨g,0,#[],rfl,hB,h,Nat.le_refl _,by unfold maxLen;omega,rfl,rfl⟩⟩
theorem Zg.newZ {W:World} {g x:Nat} {v:Value} (hv:∀ k,v.ownBlock=some k→k < W.heap.size) (hg:g=W.heap.size) (ty:TypeId):Zg (W.alloc (.cells #[.int .u8 (x:Nat)] ty)) v x g:=by
 subst hg
 exact ⟨by simp [go_sem],fun e=>by have:=hv _ e;omega⟩
theorem StZ.lt {w W:World} {v:Value} {bs:List UInt8} (h:StZ w v bs W) (h0:0 < bs.length):∀ W':World,W.heap.size≤W'.heap.size→∀ k,v.ownBlock=some k→k < W'.heap.size:=by
 obtain ⟨⟨g,cap,rfl,hB,hnc,hcm,hc,hf⟩,hb⟩:=h
 intro W' hW k hk
 have:g=k:=Option.some.inj hk
 obtain ⟨u,hu⟩:=Option.isSome_iff_exists.1 (hf 0 (by omega)).1
 have:g < W.heap.size:=by simpa using cell_block hu
 omega
theorem conv_let (w W:World) (hW:Below w.heap.size w W) (s:ByteArray) (hs:s.size≤1048576):∃ v W',(convert 9 23 (.string s)).run Tryz.prog W=.ok v W'∧StZ w v (sl s) W'∧(∀ W2:World,W'.heap.size≤W2.heap.size→∀ k,v.ownBlock=some k→k < W2.heap.size)∧∀ g,W.cell? ⟨g,0,none⟩=some (.int .u8 0)→Zg W' v 0 g:=by
 obtain ⟨cap,W',h1,h2,h3,h4⟩:=conv_ownZ W s hs
 exact ⟨_,W',h1,StZ.conv hW h3 h4,fun W2 hW2 k hk=>by have:W.heap.size=k:=Option.some.inj hk;omega,fun g hg=>Zg.conv (x:=0) hg h3 h4⟩
theorem Zg.newZ0 {W:World} {g:Nat} {v:Value} (hv:∀ k,v.ownBlock=some k→k < W.heap.size) (hg:g=W.heap.size) (ty:TypeId):Zg (W.alloc (.cells #[.int .u8 0] ty)) v 0 g:=Zg.newZ (x:=0) hv hg ty
theorem armZ_one {w W:World} {ops:Array Oper} {o:Oper} {a:Act} {K:Act→World→Prop} {Q:Exit→Act→World→Prop} {E:Prop} (hgd:o.guard=none) (s y:Operand)
  (ho:o.op=.call { callee:=.builtin .append,args:=#[s,y],argTypes:=#[23,23] })
  {v:Value} {bs:List UInt8} {x g:Nat} (hs:a.eval s=v) (hy:a.eval y=.slice (some ⟨g,0,none⟩) 1 1) (hst:StZ w v bs W) (hz:Zg W v x g) (hx:x < 256) (hb:bs.length≤90000000000)
  (h:∀ v' W',StZ w v' (bs++[UInt8.ofNat x]) W'→LayF W W' v v'→K (a.put o.dst v') W'):if Region.wanted o (yielded ops a.tmps)=true then Oper.wp Tryz.prog o a W K Q else E:=by
 have hw:Region.wanted o (yielded ops a.tmps)=true:=by simp [Region.wanted,hgd]
 rw [if_pos hw]
 obtain ⟨v',w',hr,h2,h3⟩:=appZ_run hst.1 hx hz.1 hb hst.size o.type
 unfold Oper.wp execOp
 simp only [ho,resolve,invoke,builtin,Sem.run_bind,Sem.run_pure,Result.andThen_ok,List.map_toArray,List.map_cons,List.map_nil,hs,hy,hr]
 exact h v' w' (hst.lay h2 h3) h3
theorem armZ_txt {w W:World} {ops:Array Oper} {o:Oper} {a:Act} {K:Act→World→Prop} {Q:Exit→Act→World→Prop} {E:Prop} (hgd:o.guard=none) (s y:Operand)
  (ho:o.op=.call { callee:=.builtin .append,args:=#[s,y],argTypes:=#[23,9] })
  {v:Value} {bs:List UInt8} {t:ByteArray} (hs:a.eval s=v) (hy:a.eval y=.string t) (hst:StZ w v bs W) (hb:bs.length+t.size≤90000000000)
  (h:∀ v' W',StZ w v' (bs++sl t) W'→LayF W W' v v'→K (a.put o.dst v') W'):if Region.wanted o (yielded ops a.tmps)=true then Oper.wp Tryz.prog o a W K Q else E:=by
 have hw:Region.wanted o (yielded ops a.tmps)=true:=by simp [Region.wanted,hgd]
 rw [if_pos hw]
 obtain ⟨v',w',hr,h2,h3⟩:=appZT_run hst.1 t hb hst.size o.type
 unfold Oper.wp execOp
 simp only [ho,resolve,invoke,builtin,Sem.run_bind,Sem.run_pure,Result.andThen_ok,List.map_toArray,List.map_cons,List.map_nil,hs,hy,hr]
 exact h v' w' (hst.lay h2 h3) h3
end Go.Proofs.YtmooaepbdmengaaGreatDoor
