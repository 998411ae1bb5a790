/- Parts of the proof of SniffWritten: RPrt, JvJ, JvK. -/
import Derived.Test.YtmooaepbdmengaaGreatDoorZ28
import Derived.Test.YtmooaepbdmengaaGreatDoorZ37
import Derived.Test.YtmooaepbdmengaaGreatDoorZ35
import Derived.Test.YtmooaepbdmengaaGreatDoorZ15
import Derived.Test.YtmooaepbdmengaaGreatDoorZ23
import Derived.Lib.SlBytesConst
namespace Go.Proofs.YtmooaepbdmengaaGreatDoor
open Go.RowKit
set_option linter.unusedVariables false
set_option linter.unusedSimpArgs false
def PrtSaid (d:Nat):Prop:=∀ (j:J),wtJ j≤d→checkJ j=0→wtJ j≤100000→∀ (S:Nat→Prop) (w:World) (c:Array Value),RdJ S w j c →
 Calls Tryz.prog 35 #[.agg c] w fun e w'=>(∃ v,e=.returned v∧SrcB w' v (printJ j))∧Below w.heap.size w w'
theorem cell_mk {w:World} {C:Array Value} {t:TypeId} {mk:Nat × Nat} {n i:Nat} {v:Value} (hn:n=w.heap.size) (hv:C[i]?=some v):(w.alloc (.cells C t mk)).cell? ⟨n,i,none⟩=some v:=by
 subst hn
 rw [cell_of_row _ w.heap.size i _ _ _ (heap_alloc_new w _)]
 exact hv
theorem SrcB.below {w w':World} {v:Value} {l:List UInt8} (h:SrcB w v l) (hb:Below w.heap.size w w'):SrcB w' v l:=by
 obtain ⟨a,m,c,rfl,hr,hc⟩:=h
 exact ⟨a,m,c,rfl,hr.keep hb,hc⟩
def PrRel (w1:World) (g:Nat) (obj:Bool) (m:M) (u i:Value) (wr:World):Prop:=
 ∃ (j:Nat) (cur:List UInt8),i=.int .i64 j∧j≤m.len∧Hid (printM obj true m=cur++printM obj (decide (j=0)) (m.drop j))∧OwnB wr (g+1) u cur∧Below (g+1) w1 wr∧cur.length+8 * wtM (m.drop j)≤800000
theorem pr_rel {w1 w':World} {g:Nat} {obj:Bool} {m:M} {u' i:Value} {j:Nat} {cur:List UInt8} {n:List UInt8} {vv:J} (hx:m.get? j=some (n,vv)) (hall:printM obj true m=cur++printM obj (decide (j=0)) (m.drop j))
  (ho:OwnB w' (g+1) u' (cur++((if decide (j=0) then [] else [44])++(named obj n++printJ vv)))) (hb:Below (g+1) w1 w') (hj:j < m.len) (hi:i=.int .i64 ((j:Int)+1)) (hw:cur.length+8 * wtM (m.drop j)≤800000):PrRel w1 g obj m u' i w':=by
 refine ⟨j+1,_,by rw [hi];simp,hj,?_,ho,hb,?_⟩
 ·show _=_
  rw [hall,M.drop_get m j n vv hx,printM]
  simp
 ·have g1:=(wtM_get m j n vv hx).1
  have g2:=print_wt vv
  have g3:=quoteL_len n
  have g4:=quoteM_len n
  have g5:(named obj n).length≤6 * n.length+3:=by
   unfold named
   cases obj
   ·simp
   ·simp only [if_true,List.length_append,List.length_cons,List.length_nil];omega
  have g6:(if decide (j=0) then ([]:List UInt8) else [44]).length≤1:=by cases decide (j=0)<;>simp
  simp only [List.length_append]
  omega
set_option maxRecDepth 100000 in
set_option maxHeartbeats 16000000 in
theorem prt_step (d:Nat) (hof:PrtSaid d):PrtSaid (d+1):=by
 intro j hj hck hw8 S w c h
 obtain ⟨k,t,m⟩:=j
 obtain ⟨x,ak,nk,ck,rfl,hxt,hxs,hkb,hml,hnk,hks⟩:=h
 obtain ⟨hk7,_,_,_,_,hw5,hcm⟩:=checkJ_parts hck
 have hwt:wtJ (.mk k t m)=2+t.length+wtM m:=rfl
 rw [hwt] at hj hw8
 have hxl:x.size=t.length:=by rw [← hxt,sl_len]
 have hml2:=wtM_len m
 rw [hml] at hml2
 have HOF:=Lib.hid hof
 have HKS:=Lib.hid (hks.imp (S':=fun k=>k < w.heap.size) (fun k h _=>h))
 have HXT:=Lib.hid hxt
 have HML:=Lib.hid hml
 have HCM:=Lib.hid hcm
 have hnk9:=hnk.1
 clear hof hks hml hnk hck hwt
 have hbox:Below w.heap.size w (w.alloc (.cells (jCells k x ak nk ck) 53)):=(Below.refl _ _).alloc (Nat.le_refl _) _
 have HBX:=Lib.hid hbox
 clear hbox
 have hk:k=1∨k=2∨k=3∨k=4∨k=5∨k=6∨k=7:=by omega
 clear hkb hk7
 rcases hk with rfl|rfl|rfl|rfl|rfl|rfl|rfl
 ·have HP:printJ (.mk 1 t m)=[110,117,108,108]:=by rw [printJ];rfl
  rw [HP]
  have kc1:=Lib.run_convert_bytes_const (P:=Tryz.prog) (w.alloc (.cells (jCells 1 x ak nk ck) 53)) 23 5 #[.int .u8 110,.int .u8 117,.int .u8 108,.int .u8 108] 4 4 Tryz.underlying23 Tryz.underlying5
  have hsa:(w.alloc (.cells (jCells 1 x ak nk ck) 53)).heap.size=w.heap.size+1:=by simp
  rw [hsa] at kc1
  clear hsa
  go_enter Tryz.func35,Tryz.ntmps35
  go_wp2_with fail
  go_ret
  refine ⟨⟨_,rfl,_,4,4,rfl,⟨rfl,by omega,fun i hi=>⟨_,0,rfl,?_⟩⟩,by simp⟩,HBX.out.alloc (by simp) _⟩
  match i,hi with
  | 0,_=>exact cell_mk (by simp) rfl
  | 1,_=>exact cell_mk (by simp) rfl
  | 2,_=>exact cell_mk (by simp) rfl
  | 3,_=>exact cell_mk (by simp) rfl
 ·have HP:printJ (.mk 2 t m)=[102,97,108,115,101]:=by rw [printJ];rfl
  rw [HP]
  have kc1:=Lib.run_convert_bytes_const (P:=Tryz.prog) (w.alloc (.cells (jCells 2 x ak nk ck) 53)) 23 5 #[.int .u8 102,.int .u8 97,.int .u8 108,.int .u8 115,.int .u8 101] 5 5 Tryz.underlying23 Tryz.underlying5
  have hsa:(w.alloc (.cells (jCells 2 x ak nk ck) 53)).heap.size=w.heap.size+1:=by simp
  rw [hsa] at kc1
  clear hsa
  go_enter Tryz.func35,Tryz.ntmps35
  go_wp2_with fail
  go_ret
  refine ⟨⟨_,rfl,_,5,5,rfl,⟨rfl,by omega,fun i hi=>⟨_,0,rfl,?_⟩⟩,by simp⟩,HBX.out.alloc (by simp) _⟩
  match i,hi with
  | 0,_=>exact cell_mk (by simp) rfl
  | 1,_=>exact cell_mk (by simp) rfl
  | 2,_=>exact cell_mk (by simp) rfl
  | 3,_=>exact cell_mk (by simp) rfl
  | 4,_=>exact cell_mk (by simp) rfl
 ·have HP:printJ (.mk 3 t m)=[116,114,117,101]:=by rw [printJ];rfl
  rw [HP]
  have kc1:=Lib.run_convert_bytes_const (P:=Tryz.prog) (w.alloc (.cells (jCells 3 x ak nk ck) 53)) 23 5 #[.int .u8 116,.int .u8 114,.int .u8 117,.int .u8 101] 4 4 Tryz.underlying23 Tryz.underlying5
  have hsa:(w.alloc (.cells (jCells 3 x ak nk ck) 53)).heap.size=w.heap.size+1:=by simp
  rw [hsa] at kc1
  clear hsa
  go_enter Tryz.func35,Tryz.ntmps35
  go_wp2_with fail
  go_ret
  refine ⟨⟨_,rfl,_,4,4,rfl,⟨rfl,by omega,fun i hi=>⟨_,0,rfl,?_⟩⟩,by simp⟩,HBX.out.alloc (by simp) _⟩
  match i,hi with
  | 0,_=>exact cell_mk (by simp) rfl
  | 1,_=>exact cell_mk (by simp) rfl
  | 2,_=>exact cell_mk (by simp) rfl
  | 3,_=>exact cell_mk (by simp) rfl
 ·have HP:printJ (.mk 4 t m)=t:=by rw [printJ];rfl
  rw [HP]
  obtain ⟨cap3,w3,hrun,hb3,hs3,hr3,hz1,hz2⟩:=conv_bytes (w.alloc (.cells (jCells 4 x ak nk ck) 53)) x (by omega)
  rw [hxt] at hr3
  have HR3:=Lib.hid hr3
  have HB3:=Lib.hid (HBX.out.trans (hb3.mono (by simp)))
  clear hr3 hb3 hz2 hxt
  go_enter Tryz.func35,Tryz.ntmps35
  go_wp2_with fail
  go_ret
  exact ⟨⟨_,rfl,_,_,_,rfl,by simpa [hxl] using HR3.out,by simp⟩,HB3.out⟩
 ·have HP:printJ (.mk 5 t m)=quoteL t:=by rw [printJ];rfl
  rw [HP]
  have hwh:=hw5 rfl
  have CQ:=fun W=>Lib.hid ((rquote_calls x (by omega) W).mono (by rintro e w' ⟨h1,_,h3⟩;exact (show e=.returned (.tuple #[.string (txt (quoteL t)),.bool true])∧Below _ _ w' from ⟨by rw [h1 (by rw [hxt,hxl];exact hwh),hxt],h3⟩)))
  clear hwh hw5 hxt
  go_enter Tryz.func35,Tryz.ntmps35
  go_wp2_with fail
  refine (CQ _).out.mono ?_
  rintro e w2 ⟨rfl,hb2⟩
  have hql:=quoteL_len t
  have hqm:=quoteM_len t
  obtain ⟨cap3,w3,hrun,hb3,hs3,hr3,hz1,hz2⟩:=conv_bytes w2 (txt (quoteL t)) (by rw [← sl_len,sl_txt];omega)
  rw [sl_txt] at hr3
  have HR3:=Lib.hid hr3
  have HB2:=Lib.hid (HBX.out.trans (hb2.mono (by simp)))
  have HB3:=Lib.hid (HB2.out.trans (hb3.mono HB2.out.size))
  clear hr3 hb2 hb3 hz2
  go_wp2_with fail
  go_ret
  exact ⟨⟨_,rfl,_,_,_,rfl,HR3.out,by simp⟩,HB3.out⟩
 ·have HP:printJ (.mk 6 t m)=91::(printM false true m++[93]):=by rw [printJ];rfl
  rw [HP]
  go_enter Tryz.func35,Tryz.ntmps35
  go_wp2_with fail
  go_loopw [3,6] (fun u i wr=>PrRel (w.alloc (.cells (jCells 6 x ak nk ck) 53)) w.heap.size false m u i wr) (fun _ i _=>nk - (intOf i).toNat)
  case atStart=>exact ⟨0,[],rfl,Nat.zero_le _,Lib.hid rfl,World.ownsRow_nil _ _ _ _,Below.refl _ _,by simp [M.drop];omega⟩
  case round=>
   obtain ⟨j,cur,rfl,hjm,hall,hou,hbl,hcw⟩:=hrel
   have f0:wr.cell? ⟨w.heap.size,0,none⟩=some (.int .i64 6):=below_cellB hbl (by simp [go_sem]) (by simp)
   have f2:wr.cell? ⟨w.heap.size,2,none⟩=some (.slice ak nk ck):=below_cellB hbl (by simp [go_sem]) (by simp)
   have hsz:w.heap.size+1≤wr.heap.size:=by have:=hbl.size;simpa using this
   have hBW:=HBX.out.trans (hbl.mono (by omega))
   have HBW:=Lib.hid hBW
   have HBL:=Lib.hid hbl
   have HOU:=Lib.hid hou
   rw [HML.out] at hjm
   clear hou hbl hBW
   by_cases hlt:j < nk
   ·obtain ⟨⟨n,vv⟩,hx⟩:=M.get_some m j (by rw [HML.out];exact hlt)
    have hwg:=wtM_get m j n vv hx
    have hcg:=checkM_get m j n vv HCM.out hx
    obtain ⟨b0,o0,y,k',t',x',m',ak',nk',ck',rfl,rfl,e1,e2,e3,e4,e5,e6,e7,g0w,g1w,g2w,g3w⟩:=(HKS.out.at hx).cells
    have E7:=Lib.hid e7
    have HX:=Lib.hid hx
    have hyl:y.size=n.length:=by rw [← e1,sl_len]
    have hwy:wholeTo (sl y)=y.size:=by rw [e1,hcg.1,hyl]
    have HC:=Lib.hid (fun S W c=>HOF.out _ (show wtJ (.mk k' t' m')≤d by omega) hcg.2 (show wtJ (.mk k' t' m')≤100000 by omega) S W c)
    have HE1:=Lib.hid e1
    have hpw:=print_wt (.mk k' t' m')
    have hcl2:cur.length+8 * (n.length+wtJ (.mk k' t' m'))≤800000:=by omega
    have hj0:(0:Int)≤(j:Int):=by omega
    have hj1:(j:Int) < (nk:Int):=by omega
    have hys:y.size≤100000:=by omega
    have CQ:=fun W=>Lib.hid ((rquote_calls y (by omega) W).mono (by rintro e w' ⟨h1,_,h3⟩;exact (show e=.returned (.tuple #[.string (txt (quoteL (sl y))),.bool true])∧Below _ _ w' from ⟨h1 hwy,h3⟩)))
    have hql:(quoteL (sl y)).length≤6 * n.length+2:=by
     have h1:=quoteL_len (sl y)
     have h2:=quoteM_len (sl y)
     rw [sl_len,hyl] at h2
     omega
    clear hwg hcg e1 e3 e4 e5 e7 hx hwy
    obtain ⟨P,hP⟩:∃ P,P=printJ (.mk k' t' m'):=⟨_,rfl⟩
    rw [← hP] at HC hpw
    have HPP:=Lib.hid hP
    clear hP
    by_cases hjz:j=0

    ·subst hjz
     simp only [Nat.zero_mul,Nat.add_zero] at g0w g1w g2w g3w
     have HWL:=Lib.hid (HBX.out.trans (HBL.out.mono (by omega)))
     have f0L:wr.cell? ⟨w.heap.size,0,none⟩=some (.int .i64 6):=below_cellB HBL.out (by simp [go_sem]) (by simp)
     have f2L:wr.cell? ⟨w.heap.size,2,none⟩=some (.slice (some ⟨b0,o0,none⟩) nk ck):=below_cellB HBL.out (by simp [go_sem]) (by simp)
     have hzL:w.heap.size+1≤wr.heap.size:=by have:=HBL.out.size;simpa using this
     have g0L:=cell_below HWL.out g0w
     have g1L:=cell_below HWL.out g1w
     have g2L:=cell_below HWL.out g2w
     have g3L:=cell_below HWL.out g3w
     have lbL:b0 < wr.heap.size:=by omega
     have lwL:w.heap.size < wr.heap.size:=by omega
     have HOL:=HOU
     go_wp2_with fail
     refine (HC.out _ _ _ (E7.out.below HWL.out)).mono ?_
     rintro e wP ⟨⟨sv,rfl,hsv⟩,hbP⟩
     have HBP:=Lib.hid (HBL.out.trans (hbP.mono hzL))
     have HOP:=Lib.hid (HOL.out.keep hbP)
     have HSV:=Lib.hid hsv
     clear hbP hsv
     have HWP:=Lib.hid (HBX.out.trans (HBP.out.mono (by omega)))
     have f0P:wP.cell? ⟨w.heap.size,0,none⟩=some (.int .i64 6):=below_cellB HBP.out (by simp [go_sem]) (by simp)
     have f2P:wP.cell? ⟨w.heap.size,2,none⟩=some (.slice (some ⟨b0,o0,none⟩) nk ck):=below_cellB HBP.out (by simp [go_sem]) (by simp)
     have hzP:w.heap.size+1≤wP.heap.size:=by have:=HBP.out.size;simpa using this
     have g0P:=cell_below HWP.out g0w
     have g1P:=cell_below HWP.out g1w
     have g2P:=cell_below HWP.out g2w
     have g3P:=cell_below HWP.out g3w
     have lbP:b0 < wP.heap.size:=by omega
     have lwP:w.heap.size < wP.heap.size:=by omega
     go_wp2_with (at_builtin;refine wpList_appL (v:=u3) (bs:=_) (sv:=sv) (l:=P) (B:=w.heap.size+1) (by rfl) _ _ (by rfl) (by rfl) HOP.out (by rfl) HSV.out ?o3 ?o4 ?_)
     case o3=>first|omega|(simp;done)|(simp;omega)
     case o4=>first|omega|(simp;done)|(simp;omega)
     intro uZ wZ ho hl
     have HBZ:=Lib.hid (hl.below HBP.out (by omega) (fun k hk=>(owns_lt HOP.out k hk).1))
     have HOZ:=Lib.hid ho
     clear ho hl
     go_wp2_with fail
     go_roundw
     case rel=>
      refine pr_rel HX.out hall.out ?_ HBZ.out (by rw [HML.out];exact hlt) (by simp) hcw
      have e:=HOZ.out
      rw [HPP.out] at e
      simpa [named,HE1.out] using e
     case measure=>simp [intOf];omega
    ·have djz:decide ((0:Int) < (j:Int))=true:=by simp;omega
     have HWL:=Lib.hid (HBX.out.trans (HBL.out.mono (by omega)))
     have f0L:wr.cell? ⟨w.heap.size,0,none⟩=some (.int .i64 6):=below_cellB HBL.out (by simp [go_sem]) (by simp)
     have f2L:wr.cell? ⟨w.heap.size,2,none⟩=some (.slice (some ⟨b0,o0,none⟩) nk ck):=below_cellB HBL.out (by simp [go_sem]) (by simp)
     have hzL:w.heap.size+1≤wr.heap.size:=by have:=HBL.out.size;simpa using this
     have g0L:=cell_below HWL.out g0w
     have g1L:=cell_below HWL.out g1w
     have g2L:=cell_below HWL.out g2w
     have g3L:=cell_below HWL.out g3w
     have lbL:b0 < wr.heap.size:=by omega
     have lwL:w.heap.size < wr.heap.size:=by omega
     have HOL:=HOU
     go_wp2_with (at_builtin;refine wpList_appL (v:=u3) (bs:=_) (sv:=.slice (some ⟨wr.heap.size,0,none⟩) 1 1) (l:=[44]) (B:=w.heap.size+1) (by rfl) _ _ (by rfl) (by rfl) (HOL.out.alloc _) (by rfl) (by have:=srcB_one wr 44 (by omega);simpa using this) ?o3 ?o4 ?_)
     case o3=>first|omega|(simp;done)|(simp;omega)
     case o4=>first|omega|(simp;done)|(simp;omega)
     intro uA wA ho hl
     have HBA:=Lib.hid ((((LayF.fresh ((Below.refl _ _).alloc (Nat.le_refl _) _) u3).trans hl)).below HBL.out (by omega) (fun k hk=>(owns_lt HOL.out k hk).1))
     have HOA:=Lib.hid ho
     clear ho hl
     have HWA:=Lib.hid (HBX.out.trans (HBA.out.mono (by omega)))
     have f0A:wA.cell? ⟨w.heap.size,0,none⟩=some (.int .i64 6):=below_cellB HBA.out (by simp [go_sem]) (by simp)
     have f2A:wA.cell? ⟨w.heap.size,2,none⟩=some (.slice (some ⟨b0,o0,none⟩) nk ck):=below_cellB HBA.out (by simp [go_sem]) (by simp)
     have hzA:w.heap.size+1≤wA.heap.size:=by have:=HBA.out.size;simpa using this
     have g0A:=cell_below HWA.out g0w
     have g1A:=cell_below HWA.out g1w
     have g2A:=cell_below HWA.out g2w
     have g3A:=cell_below HWA.out g3w
     have lbA:b0 < wA.heap.size:=by omega
     have lwA:w.heap.size < wA.heap.size:=by omega
     go_wp2_with fail
     refine (HC.out _ _ _ (E7.out.below HWA.out)).mono ?_
     rintro e wP ⟨⟨sv,rfl,hsv⟩,hbP⟩
     have HBP:=Lib.hid (HBA.out.trans (hbP.mono hzA))
     have HOP:=Lib.hid (HOA.out.keep hbP)
     have HSV:=Lib.hid hsv
     clear hbP hsv
     have HWP:=Lib.hid (HBX.out.trans (HBP.out.mono (by omega)))
     have f0P:wP.cell? ⟨w.heap.size,0,none⟩=some (.int .i64 6):=below_cellB HBP.out (by simp [go_sem]) (by simp)
     have f2P:wP.cell? ⟨w.heap.size,2,none⟩=some (.slice (some ⟨b0,o0,none⟩) nk ck):=below_cellB HBP.out (by simp [go_sem]) (by simp)
     have hzP:w.heap.size+1≤wP.heap.size:=by have:=HBP.out.size;simpa using this
     have g0P:=cell_below HWP.out g0w
     have g1P:=cell_below HWP.out g1w
     have g2P:=cell_below HWP.out g2w
     have g3P:=cell_below HWP.out g3w
     have lbP:b0 < wP.heap.size:=by omega
     have lwP:w.heap.size < wP.heap.size:=by omega
     go_wp2_with (at_builtin;refine wpList_appL (v:=uA) (bs:=_) (sv:=sv) (l:=P) (B:=w.heap.size+1) (by rfl) _ _ (by rfl) (by rfl) HOP.out (by rfl) HSV.out ?o3 ?o4 ?_)
     case o3=>first|omega|(simp;done)|(simp;omega)
     case o4=>first|omega|(simp;done)|(simp;omega)
     intro uZ wZ ho hl
     have HBZ:=Lib.hid (hl.below HBP.out (by omega) (fun k hk=>(owns_lt HOP.out k hk).1))
     have HOZ:=Lib.hid ho
     clear ho hl
     go_wp2_with fail
     go_roundw
     case rel=>
      refine pr_rel HX.out hall.out ?_ HBZ.out (by rw [HML.out];exact hlt) (by simp) hcw
      have e:=HOZ.out
      rw [HPP.out] at e
      simpa [named,HE1.out,hjz] using e
     case measure=>simp [intOf];omega
   ·have HD:Hid (printM false true m=cur):=by
     show _=_
     rw [hall.out,M.drop_len m j (by rw [HML.out];omega)]
     simp [printM]
    have hcl:cur.length≤800000:=by omega
    have hs0:=HOU.out.srcB
    have HS0:=Lib.hid (hs0.below ((Below.refl _ _).alloc (Nat.le_refl _) (.cells #[.int .u8 91] 5)))
    clear hs0
    go_wp2_with (at_builtin;refine wpList_appL (v:=.slice (some ⟨wr.heap.size,0,none⟩) 1 1) (bs:=_) (sv:=u3) (l:=cur) (B:=w.heap.size+1) (by rfl) _ _ (by rfl) (by rfl) (by have:=own_fresh wr (w.heap.size+1) 91 (by omega) hsz;simpa using this) (by rfl) HS0.out ?o3 ?o4 ?_)
    case o3=>first|omega|(simp;done)|(simp;omega)
    case o4=>first|omega|(simp;done)|(simp;omega)
    intro uA wA ho hl
    have HBA:=Lib.hid (hl.below (HBL.out.alloc hsz (.cells #[.int .u8 91] 5)) (by simp;omega) (fun k hk=>by simp [Value.ownBlock] at hk;omega))
    have HOA:=Lib.hid ho
    have hzA:w.heap.size+1≤wA.heap.size:=by have:=HBA.out.size;simpa using this
    clear ho hl
    go_wp2_with (at_builtin;refine wpList_appL (v:=uA) (bs:=_) (sv:=.slice (some ⟨wA.heap.size,0,none⟩) 1 1) (l:=[93]) (B:=w.heap.size+1) (by rfl) _ _ (by rfl) (by rfl) (HOA.out.alloc _) (by rfl) (by have:=srcB_one wA 93 (by omega);simpa using this) ?o3 ?o4 ?_)
    case o3=>first|omega|(simp;done)|(simp;omega)
    case o4=>first|omega|(simp;done)|(simp;omega)
    intro uC wC ho hl
    have HBC:=Lib.hid ((((LayF.fresh ((Below.refl _ _).alloc (Nat.le_refl _) _) uA).trans hl)).below HBA.out (by omega) (fun k hk=>(owns_lt HOA.out k hk).1))
    have HOC:=Lib.hid ho
    clear ho hl
    go_wp2_with fail
    go_ret
    refine ⟨⟨_,rfl,?_⟩,HBX.out.trans (HBC.out.mono (by omega))⟩
    rw [HD.out]
    have e:=HOC.out.srcB
    simpa using e
 ·have HP:printJ (.mk 7 t m)=123::(printM true true m++[125]):=by rw [printJ];rfl
  rw [HP]
  go_enter Tryz.func35,Tryz.ntmps35
  go_wp2_with fail
  go_loopw [3,6] (fun u i wr=>PrRel (w.alloc (.cells (jCells 7 x ak nk ck) 53)) w.heap.size true m u i wr) (fun _ i _=>nk - (intOf i).toNat)
  case atStart=>exact ⟨0,[],rfl,Nat.zero_le _,Lib.hid rfl,World.ownsRow_nil _ _ _ _,Below.refl _ _,by simp [M.drop];omega⟩
  case round=>
   obtain ⟨j,cur,rfl,hjm,hall,hou,hbl,hcw⟩:=hrel
   have f0:wr.cell? ⟨w.heap.size,0,none⟩=some (.int .i64 7):=below_cellB hbl (by simp [go_sem]) (by simp)
   have f2:wr.cell? ⟨w.heap.size,2,none⟩=some (.slice ak nk ck):=below_cellB hbl (by simp [go_sem]) (by simp)
   have hsz:w.heap.size+1≤wr.heap.size:=by have:=hbl.size;simpa using this
   have hBW:=HBX.out.trans (hbl.mono (by omega))
   have HBW:=Lib.hid hBW
   have HBL:=Lib.hid hbl
   have HOU:=Lib.hid hou
   rw [HML.out] at hjm
   clear hou hbl hBW
   by_cases hlt:j < nk
   ·obtain ⟨⟨n,vv⟩,hx⟩:=M.get_some m j (by rw [HML.out];exact hlt)
    have hwg:=wtM_get m j n vv hx
    have hcg:=checkM_get m j n vv HCM.out hx
    obtain ⟨b0,o0,y,k',t',x',m',ak',nk',ck',rfl,rfl,e1,e2,e3,e4,e5,e6,e7,g0w,g1w,g2w,g3w⟩:=(HKS.out.at hx).cells
    have E7:=Lib.hid e7
    have HX:=Lib.hid hx
    have hyl:y.size=n.length:=by rw [← e1,sl_len]
    have hwy:wholeTo (sl y)=y.size:=by rw [e1,hcg.1,hyl]
    have HC:=Lib.hid (fun S W c=>HOF.out _ (show wtJ (.mk k' t' m')≤d by omega) hcg.2 (show wtJ (.mk k' t' m')≤100000 by omega) S W c)
    have HE1:=Lib.hid e1
    have hpw:=print_wt (.mk k' t' m')
    have hcl2:cur.length+8 * (n.length+wtJ (.mk k' t' m'))≤800000:=by omega
    have hj0:(0:Int)≤(j:Int):=by omega
    have hj1:(j:Int) < (nk:Int):=by omega
    have hys:y.size≤100000:=by omega
    have CQ:=fun W=>Lib.hid ((rquote_calls y (by omega) W).mono (by rintro e w' ⟨h1,_,h3⟩;exact (show e=.returned (.tuple #[.string (txt (quoteL (sl y))),.bool true])∧Below _ _ w' from ⟨h1 hwy,h3⟩)))
    have hql:(quoteL (sl y)).length≤6 * n.length+2:=by
     have h1:=quoteL_len (sl y)
     have h2:=quoteM_len (sl y)
     rw [sl_len,hyl] at h2
     omega
    clear hwg hcg e1 e3 e4 e5 e7 hx hwy
    obtain ⟨P,hP⟩:∃ P,P=printJ (.mk k' t' m'):=⟨_,rfl⟩
    rw [← hP] at HC hpw
    have HPP:=Lib.hid hP
    clear hP
    by_cases hjz:j=0

    ·subst hjz
     simp only [Nat.zero_mul,Nat.add_zero] at g0w g1w g2w g3w
     have HWL:=Lib.hid (HBX.out.trans (HBL.out.mono (by omega)))
     have f0L:wr.cell? ⟨w.heap.size,0,none⟩=some (.int .i64 7):=below_cellB HBL.out (by simp [go_sem]) (by simp)
     have f2L:wr.cell? ⟨w.heap.size,2,none⟩=some (.slice (some ⟨b0,o0,none⟩) nk ck):=below_cellB HBL.out (by simp [go_sem]) (by simp)
     have hzL:w.heap.size+1≤wr.heap.size:=by have:=HBL.out.size;simpa using this
     have g0L:=cell_below HWL.out g0w
     have g1L:=cell_below HWL.out g1w
     have g2L:=cell_below HWL.out g2w
     have g3L:=cell_below HWL.out g3w
     have lbL:b0 < wr.heap.size:=by omega
     have lwL:w.heap.size < wr.heap.size:=by omega
     have HOL:=HOU
     go_wp2_with fail
     refine (CQ _).out.mono ?_
     rintro e wQ ⟨rfl,hbQ⟩
     have HBQ:=Lib.hid (HBL.out.trans (hbQ.mono hzL))
     have HOQ:=Lib.hid (HOL.out.keep hbQ)
     clear hbQ
     have HWQ:=Lib.hid (HBX.out.trans (HBQ.out.mono (by omega)))
     have f0Q:wQ.cell? ⟨w.heap.size,0,none⟩=some (.int .i64 7):=below_cellB HBQ.out (by simp [go_sem]) (by simp)
     have f2Q:wQ.cell? ⟨w.heap.size,2,none⟩=some (.slice (some ⟨b0,o0,none⟩) nk ck):=below_cellB HBQ.out (by simp [go_sem]) (by simp)
     have hzQ:w.heap.size+1≤wQ.heap.size:=by have:=HBQ.out.size;simpa using this
     have g0Q:=cell_below HWQ.out g0w
     have g1Q:=cell_below HWQ.out g1w
     have g2Q:=cell_below HWQ.out g2w
     have g3Q:=cell_below HWQ.out g3w
     have lbQ:b0 < wQ.heap.size:=by omega
     have lwQ:w.heap.size < wQ.heap.size:=by omega
     go_wp2_with (at_builtin;refine wpList_appT (v:=u3) (bs:=_) (t:=txt (quoteL (sl y))) (B:=w.heap.size+1) (by rfl) _ _ (by rfl) (by rfl) HOQ.out (by rfl) ?o3 ?o4 ?_)
     case o3=>(rw [← sl_len,sl_txt];first|omega|(simp;done)|(simp;omega))
     case o4=>first|omega|(simp;done)|(simp;omega)
     intro uR wR ho hl
     rw [sl_txt] at ho
     have HBR:=Lib.hid (hl.below HBQ.out (by omega) (fun k hk=>(owns_lt HOQ.out k hk).1))
     have HOR:=Lib.hid ho
     clear ho hl
     have HWR:=Lib.hid (HBX.out.trans (HBR.out.mono (by omega)))
     have f0R:wR.cell? ⟨w.heap.size,0,none⟩=some (.int .i64 7):=below_cellB HBR.out (by simp [go_sem]) (by simp)
     have f2R:wR.cell? ⟨w.heap.size,2,none⟩=some (.slice (some ⟨b0,o0,none⟩) nk ck):=below_cellB HBR.out (by simp [go_sem]) (by simp)
     have hzR:w.heap.size+1≤wR.heap.size:=by have:=HBR.out.size;simpa using this
     have g0R:=cell_below HWR.out g0w
     have g1R:=cell_below HWR.out g1w
     have g2R:=cell_below HWR.out g2w
     have g3R:=cell_below HWR.out g3w
     have lbR:b0 < wR.heap.size:=by omega
     have lwR:w.heap.size < wR.heap.size:=by omega
     go_wp2_with (at_builtin;refine wpList_appL (v:=uR) (bs:=_) (sv:=.slice (some ⟨wR.heap.size,0,none⟩) 1 1) (l:=[58]) (B:=w.heap.size+1) (by rfl) _ _ (by rfl) (by rfl) (HOR.out.alloc _) (by rfl) (by have:=srcB_one wR 58 (by omega);simpa using this) ?o3 ?o4 ?_)
     case o3=>first|omega|(simp;done)|(simp;omega)
     case o4=>first|omega|(simp;done)|(simp;omega)
     intro uC wC ho hl
     have HBC:=Lib.hid ((((LayF.fresh ((Below.refl _ _).alloc (Nat.le_refl _) _) uR).trans hl)).below HBR.out (by omega) (fun k hk=>(owns_lt HOR.out k hk).1))
     have HOC:=Lib.hid ho
     clear ho hl
     have HWC:=Lib.hid (HBX.out.trans (HBC.out.mono (by omega)))
     have f0C:wC.cell? ⟨w.heap.size,0,none⟩=some (.int .i64 7):=below_cellB HBC.out (by simp [go_sem]) (by simp)
     have f2C:wC.cell? ⟨w.heap.size,2,none⟩=some (.slice (some ⟨b0,o0,none⟩) nk ck):=below_cellB HBC.out (by simp [go_sem]) (by simp)
     have hzC:w.heap.size+1≤wC.heap.size:=by have:=HBC.out.size;simpa using this
     have g0C:=cell_below HWC.out g0w
     have g1C:=cell_below HWC.out g1w
     have g2C:=cell_below HWC.out g2w
     have g3C:=cell_below HWC.out g3w
     have lbC:b0 < wC.heap.size:=by omega
     have lwC:w.heap.size < wC.heap.size:=by omega
     go_wp2_with fail
     refine (HC.out _ _ _ (E7.out.below HWC.out)).mono ?_
     rintro e wP ⟨⟨sv,rfl,hsv⟩,hbP⟩
     have HBP:=Lib.hid (HBC.out.trans (hbP.mono hzC))
     have HOP:=Lib.hid (HOC.out.keep hbP)
     have HSV:=Lib.hid hsv
     clear hbP hsv
     have HWP:=Lib.hid (HBX.out.trans (HBP.out.mono (by omega)))
     have f0P:wP.cell? ⟨w.heap.size,0,none⟩=some (.int .i64 7):=below_cellB HBP.out (by simp [go_sem]) (by simp)
     have f2P:wP.cell? ⟨w.heap.size,2,none⟩=some (.slice (some ⟨b0,o0,none⟩) nk ck):=below_cellB HBP.out (by simp [go_sem]) (by simp)
     have hzP:w.heap.size+1≤wP.heap.size:=by have:=HBP.out.size;simpa using this
     have g0P:=cell_below HWP.out g0w
     have g1P:=cell_below HWP.out g1w
     have g2P:=cell_below HWP.out g2w
     have g3P:=cell_below HWP.out g3w
     have lbP:b0 < wP.heap.size:=by omega
     have lwP:w.heap.size < wP.heap.size:=by omega
     go_wp2_with (at_builtin;refine wpList_appL (v:=uC) (bs:=_) (sv:=sv) (l:=P) (B:=w.heap.size+1) (by rfl) _ _ (by rfl) (by rfl) HOP.out (by rfl) HSV.out ?o3 ?o4 ?_)
     case o3=>first|omega|(simp;done)|(simp;omega)
     case o4=>first|omega|(simp;done)|(simp;omega)
     intro uZ wZ ho hl
     have HBZ:=Lib.hid (hl.below HBP.out (by omega) (fun k hk=>(owns_lt HOP.out k hk).1))
     have HOZ:=Lib.hid ho
     clear ho hl
     go_wp2_with fail
     go_roundw
     case rel=>
      refine pr_rel HX.out hall.out ?_ HBZ.out (by rw [HML.out];exact hlt) (by simp) hcw
      have e:=HOZ.out
      rw [HPP.out] at e
      simpa [named,HE1.out] using e
     case measure=>simp [intOf];omega
    ·have djz:decide ((0:Int) < (j:Int))=true:=by simp;omega
     have HWL:=Lib.hid (HBX.out.trans (HBL.out.mono (by omega)))
     have f0L:wr.cell? ⟨w.heap.size,0,none⟩=some (.int .i64 7):=below_cellB HBL.out (by simp [go_sem]) (by simp)
     have f2L:wr.cell? ⟨w.heap.size,2,none⟩=some (.slice (some ⟨b0,o0,none⟩) nk ck):=below_cellB HBL.out (by simp [go_sem]) (by simp)
     have hzL:w.heap.size+1≤wr.heap.size:=by have:=HBL.out.size;simpa using this
     have g0L:=cell_below HWL.out g0w
     have g1L:=cell_below HWL.out g1w
     have g2L:=cell_below HWL.out g2w
     have g3L:=cell_below HWL.out g3w
     have lbL:b0 < wr.heap.size:=by omega
     have lwL:w.heap.size < wr.heap.size:=by omega
     have HOL:=HOU
     go_wp2_with (at_builtin;refine wpList_appL (v:=u3) (bs:=_) (sv:=.slice (some ⟨wr.heap.size,0,none⟩) 1 1) (l:=[44]) (B:=w.heap.size+1) (by rfl) _ _ (by rfl) (by rfl) (HOL.out.alloc _) (by rfl) (by have:=srcB_one wr 44 (by omega);simpa using this) ?o3 ?o4 ?_)
     case o3=>first|omega|(simp;done)|(simp;omega)
     case o4=>first|omega|(simp;done)|(simp;omega)
     intro uA wA ho hl
     have HBA:=Lib.hid ((((LayF.fresh ((Below.refl _ _).alloc (Nat.le_refl _) _) u3).trans hl)).below HBL.out (by omega) (fun k hk=>(owns_lt HOL.out k hk).1))
     have HOA:=Lib.hid ho
     clear ho hl
     have HWA:=Lib.hid (HBX.out.trans (HBA.out.mono (by omega)))
     have f0A:wA.cell? ⟨w.heap.size,0,none⟩=some (.int .i64 7):=below_cellB HBA.out (by simp [go_sem]) (by simp)
     have f2A:wA.cell? ⟨w.heap.size,2,none⟩=some (.slice (some ⟨b0,o0,none⟩) nk ck):=below_cellB HBA.out (by simp [go_sem]) (by simp)
     have hzA:w.heap.size+1≤wA.heap.size:=by have:=HBA.out.size;simpa using this
     have g0A:=cell_below HWA.out g0w
     have g1A:=cell_below HWA.out g1w
     have g2A:=cell_below HWA.out g2w
     have g3A:=cell_below HWA.out g3w
     have lbA:b0 < wA.heap.size:=by omega
     have lwA:w.heap.size < wA.heap.size:=by omega
     go_wp2_with fail
     refine (CQ _).out.mono ?_
     rintro e wQ ⟨rfl,hbQ⟩
     have HBQ:=Lib.hid (HBA.out.trans (hbQ.mono hzA))
     have HOQ:=Lib.hid (HOA.out.keep hbQ)
     clear hbQ
     have HWQ:=Lib.hid (HBX.out.trans (HBQ.out.mono (by omega)))
     have f0Q:wQ.cell? ⟨w.heap.size,0,none⟩=some (.int .i64 7):=below_cellB HBQ.out (by simp [go_sem]) (by simp)
     have f2Q:wQ.cell? ⟨w.heap.size,2,none⟩=some (.slice (some ⟨b0,o0,none⟩) nk ck):=below_cellB HBQ.out (by simp [go_sem]) (by simp)
     have hzQ:w.heap.size+1≤wQ.heap.size:=by have:=HBQ.out.size;simpa using this
     have g0Q:=cell_below HWQ.out g0w
     have g1Q:=cell_below HWQ.out g1w
     have g2Q:=cell_below HWQ.out g2w
     have g3Q:=cell_below HWQ.out g3w
     have lbQ:b0 < wQ.heap.size:=by omega
     have lwQ:w.heap.size < wQ.heap.size:=by omega
     go_wp2_with (at_builtin;refine wpList_appT (v:=uA) (bs:=_) (t:=txt (quoteL (sl y))) (B:=w.heap.size+1) (by rfl) _ _ (by rfl) (by rfl) HOQ.out (by rfl) ?o3 ?o4 ?_)
     case o3=>(rw [← sl_len,sl_txt];first|omega|(simp;done)|(simp;omega))
     case o4=>first|omega|(simp;done)|(simp;omega)
     intro uR wR ho hl
     rw [sl_txt] at ho
     have HBR:=Lib.hid (hl.below HBQ.out (by omega) (fun k hk=>(owns_lt HOQ.out k hk).1))
     have HOR:=Lib.hid ho
     clear ho hl
     have HWR:=Lib.hid (HBX.out.trans (HBR.out.mono (by omega)))
     have f0R:wR.cell? ⟨w.heap.size,0,none⟩=some (.int .i64 7):=below_cellB HBR.out (by simp [go_sem]) (by simp)
     have f2R:wR.cell? ⟨w.heap.size,2,none⟩=some (.slice (some ⟨b0,o0,none⟩) nk ck):=below_cellB HBR.out (by simp [go_sem]) (by simp)
     have hzR:w.heap.size+1≤wR.heap.size:=by have:=HBR.out.size;simpa using this
     have g0R:=cell_below HWR.out g0w
     have g1R:=cell_below HWR.out g1w
     have g2R:=cell_below HWR.out g2w
     have g3R:=cell_below HWR.out g3w
     have lbR:b0 < wR.heap.size:=by omega
     have lwR:w.heap.size < wR.heap.size:=by omega
     go_wp2_with (at_builtin;refine wpList_appL (v:=uR) (bs:=_) (sv:=.slice (some ⟨wR.heap.size,0,none⟩) 1 1) (l:=[58]) (B:=w.heap.size+1) (by rfl) _ _ (by rfl) (by rfl) (HOR.out.alloc _) (by rfl) (by have:=srcB_one wR 58 (by omega);simpa using this) ?o3 ?o4 ?_)
     case o3=>first|omega|(simp;done)|(simp;omega)
     case o4=>first|omega|(simp;done)|(simp;omega)
     intro uC wC ho hl
     have HBC:=Lib.hid ((((LayF.fresh ((Below.refl _ _).alloc (Nat.le_refl _) _) uR).trans hl)).below HBR.out (by omega) (fun k hk=>(owns_lt HOR.out k hk).1))
     have HOC:=Lib.hid ho
     clear ho hl
     have HWC:=Lib.hid (HBX.out.trans (HBC.out.mono (by omega)))
     have f0C:wC.cell? ⟨w.heap.size,0,none⟩=some (.int .i64 7):=below_cellB HBC.out (by simp [go_sem]) (by simp)
     have f2C:wC.cell? ⟨w.heap.size,2,none⟩=some (.slice (some ⟨b0,o0,none⟩) nk ck):=below_cellB HBC.out (by simp [go_sem]) (by simp)
     have hzC:w.heap.size+1≤wC.heap.size:=by have:=HBC.out.size;simpa using this
     have g0C:=cell_below HWC.out g0w
     have g1C:=cell_below HWC.out g1w
     have g2C:=cell_below HWC.out g2w
     have g3C:=cell_below HWC.out g3w
     have lbC:b0 < wC.heap.size:=by omega
     have lwC:w.heap.size < wC.heap.size:=by omega
     go_wp2_with fail
     refine (HC.out _ _ _ (E7.out.below HWC.out)).mono ?_
     rintro e wP ⟨⟨sv,rfl,hsv⟩,hbP⟩
     have HBP:=Lib.hid (HBC.out.trans (hbP.mono hzC))
     have HOP:=Lib.hid (HOC.out.keep hbP)
     have HSV:=Lib.hid hsv
     clear hbP hsv
     have HWP:=Lib.hid (HBX.out.trans (HBP.out.mono (by omega)))
     have f0P:wP.cell? ⟨w.heap.size,0,none⟩=some (.int .i64 7):=below_cellB HBP.out (by simp [go_sem]) (by simp)
     have f2P:wP.cell? ⟨w.heap.size,2,none⟩=some (.slice (some ⟨b0,o0,none⟩) nk ck):=below_cellB HBP.out (by simp [go_sem]) (by simp)
     have hzP:w.heap.size+1≤wP.heap.size:=by have:=HBP.out.size;simpa using this
     have g0P:=cell_below HWP.out g0w
     have g1P:=cell_below HWP.out g1w
     have g2P:=cell_below HWP.out g2w
     have g3P:=cell_below HWP.out g3w
     have lbP:b0 < wP.heap.size:=by omega
     have lwP:w.heap.size < wP.heap.size:=by omega
     go_wp2_with (at_builtin;refine wpList_appL (v:=uC) (bs:=_) (sv:=sv) (l:=P) (B:=w.heap.size+1) (by rfl) _ _ (by rfl) (by rfl) HOP.out (by rfl) HSV.out ?o3 ?o4 ?_)
     case o3=>first|omega|(simp;done)|(simp;omega)
     case o4=>first|omega|(simp;done)|(simp;omega)
     intro uZ wZ ho hl
     have HBZ:=Lib.hid (hl.below HBP.out (by omega) (fun k hk=>(owns_lt HOP.out k hk).1))
     have HOZ:=Lib.hid ho
     clear ho hl
     go_wp2_with fail
     go_roundw
     case rel=>
      refine pr_rel HX.out hall.out ?_ HBZ.out (by rw [HML.out];exact hlt) (by simp) hcw
      have e:=HOZ.out
      rw [HPP.out] at e
      simpa [named,HE1.out,hjz] using e
     case measure=>simp [intOf];omega
   ·have HD:Hid (printM true true m=cur):=by
     show _=_
     rw [hall.out,M.drop_len m j (by rw [HML.out];omega)]
     simp [printM]
    have hcl:cur.length≤800000:=by omega
    have hs0:=HOU.out.srcB
    have HS0:=Lib.hid (hs0.below ((Below.refl _ _).alloc (Nat.le_refl _) (.cells #[.int .u8 123] 5)))
    clear hs0
    go_wp2_with (at_builtin;refine wpList_appL (v:=.slice (some ⟨wr.heap.size,0,none⟩) 1 1) (bs:=_) (sv:=u3) (l:=cur) (B:=w.heap.size+1) (by rfl) _ _ (by rfl) (by rfl) (by have:=own_fresh wr (w.heap.size+1) 123 (by omega) hsz;simpa using this) (by rfl) HS0.out ?o3 ?o4 ?_)
    case o3=>first|omega|(simp;done)|(simp;omega)
    case o4=>first|omega|(simp;done)|(simp;omega)
    intro uA wA ho hl
    have HBA:=Lib.hid (hl.below (HBL.out.alloc hsz (.cells #[.int .u8 123] 5)) (by simp;omega) (fun k hk=>by simp [Value.ownBlock] at hk;omega))
    have HOA:=Lib.hid ho
    have hzA:w.heap.size+1≤wA.heap.size:=by have:=HBA.out.size;simpa using this
    clear ho hl
    go_wp2_with (at_builtin;refine wpList_appL (v:=uA) (bs:=_) (sv:=.slice (some ⟨wA.heap.size,0,none⟩) 1 1) (l:=[125]) (B:=w.heap.size+1) (by rfl) _ _ (by rfl) (by rfl) (HOA.out.alloc _) (by rfl) (by have:=srcB_one wA 125 (by omega);simpa using this) ?o3 ?o4 ?_)
    case o3=>first|omega|(simp;done)|(simp;omega)
    case o4=>first|omega|(simp;done)|(simp;omega)
    intro uC wC ho hl
    have HBC:=Lib.hid ((((LayF.fresh ((Below.refl _ _).alloc (Nat.le_refl _) _) uA).trans hl)).below HBA.out (by omega) (fun k hk=>(owns_lt HOA.out k hk).1))
    have HOC:=Lib.hid ho
    clear ho hl
    go_wp2_with fail
    go_ret
    refine ⟨⟨_,rfl,?_⟩,HBX.out.trans (HBC.out.mono (by omega))⟩
    rw [HD.out]
    have e:=HOC.out.srcB
    simpa using e
theorem prt_all:∀ d,PrtSaid d
 | 0=>fun j hj=>by cases j;simp [wtJ] at hj
 | d+1=>prt_step d (prt_all d)
set_option maxHeartbeats 1000000 in
theorem val_step (d:Nat) (hd:d < 40000) (h:ValSaid d):ValSaid (d+1):=by
 intro t ht hok ez w c hr
 cases t with
 | mk k bits hi lo text more sub bs f=>
  obtain ⟨ab,nb,cb,ak,nk,ck,rfl,ho,hb,hl,⟨hn9,hra,hrb⟩,hk⟩:=hr
  obtain ⟨hkk,hf,ht1,ht2,hF⟩:=hok
  obtain ⟨-,hb1,hb2,hb3,hs1,hs2,-⟩:=ho
  have hwt:(T.mk k bits hi lo text more sub bs f).wt=2+text.size+more.size+bs.length+f.wt:=rfl
  have a1:Wh text:=⟨whole_of_ok ht1,hs1⟩
  have a2:Wh more:=⟨whole_of_ok ht2,hs2⟩
  have hfd:f.wt≤d:=by omega
  have hm:∀ W,Below w.heap.size w W→Calls Tryz.prog 33 #[.slice ak nk ck,.bool ez] W (JO (fun _=>False) (2+80 * f.wt) W):=fun W hW=>
   plain25_calls d h f ez W ak nk ck (hk.keep hW) hl hfd (by omega) hF
  have h2:2≤(T.mk k bits hi lo text more sub bs f).wt:=by omega
  have hwf:f.wt+2≤(T.mk k bits hi lo text more sub bs f).wt:=by omega
  have hwb:bs.length+2≤(T.mk k bits hi lo text more sub bs f).wt:=by omega
  have hwx:text.size+2≤(T.mk k bits hi lo text more sub bs f).wt:=by omega
  have h40:(T.mk k bits hi lo text more sub bs f).wt≤40000:=by omega
  rcases knownK_cases hkk with rfl|rfl|rfl|rfl|rfl|rfl|rfl|rfl|rfl|rfl|rfl|rfl|rfl|rfl|rfl|rfl|rfl|rfl|rfl|rfl|rfl
  ·exact value_1 _ ez w bits hi lo text more sub ab nb cb ak nk ck h2 hb1
  ·exact value_2 _ ez w bits hi lo text more sub ab nb cb ak nk ck hwx a1
  ·exact value_3 _ ez w bits hi lo text more sub ab nb cb ak nk ck f hk hl hm hwf
  ·exact value_4 _ ez w bits hi lo text more sub ab nb cb ak nk ck d h f hm hk hl hfd (by omega) hF hwf
  ·obtain ⟨q1,q2⟩:=fieldsOf_sub hf
   obtain ⟨m,rfl⟩:∃ m:Nat,sub=(m:Nat):=⟨sub.toNat,by omega⟩
   exact value_5 _ ez w bits hi lo text more _ ab nb cb ak nk ck m rfl (by omega) bs hb hwb h40
  ·exact value_6 _ ez w bits hi lo text more sub ab nb cb ak nk ck (fun W=>rest_6 _ ez W bits hi lo text more sub ab nb cb ak nk ck h2)
  ·exact value_7 _ ez w bits hi lo text more sub ab nb cb ak nk ck bs hb hwb h40
  ·refine value_8 _ ez w bits hi lo text more sub ab nb cb ak nk ck (fun W=>?_)
   by_cases e:bits=1
   ·subst e
    exact rest_8t _ ez W 1 hi lo text more sub ab nb cb ak nk ck h2
   ·exact rest_8f _ ez W bits hi lo text more sub ab nb cb ak nk ck h2 e
  ·exact value_9 _ ez w bits hi lo text more sub ab nb cb ak nk ck (fun W=>rest_9 _ ez W bits hi lo text more sub ab nb cb ak nk ck h2)
  ·exact value_10 _ ez w bits hi lo text more sub ab nb cb ak nk ck (fun W=>rest_10 _ ez W bits hi lo text more sub ab nb cb ak nk ck h2)
  ·exact value_11 _ ez w bits hi lo text more sub ab nb cb ak nk ck (by omega) a1 a2
  ·exact value_12 _ ez w bits hi lo text more sub ab nb cb ak nk ck bs hb (by omega) a1 h40
  ·exact value_13 _ ez w bits hi lo text more sub ab nb cb ak nk ck hwx a1
  ·exact value_14 _ ez w bits hi lo text more sub ab nb cb ak nk ck hwx a1
  ·exact value_15 _ ez w bits hi lo text more sub ab nb cb ak nk ck f hm (by omega) a1
  ·exact value_16 _ ez w bits hi lo text more sub ab nb cb ak nk ck (fun W=>rest_16 _ ez W bits hi lo text more sub ab nb cb ak nk ck h2)
  ·exact value_17 _ ez w bits hi lo text more sub ab nb cb ak nk ck h2 hb1
  ·exact value_18 _ ez w bits hi lo text more sub ab nb cb ak nk ck (fun W=>rest_18 _ ez W bits hi lo text more sub ab nb cb ak nk ck h2)
  ·exact value_19 _ ez w bits hi lo text more sub ab nb cb ak nk ck (fun W=>rest_19 _ ez W bits hi lo text more sub ab nb cb ak nk ck h2 hb2 hb3)
  ·exact value_127 _ ez w bits hi lo text more sub ab nb cb ak nk ck (fun W=>rest_127 _ ez W bits hi lo text more sub ab nb cb ak nk ck h2)
  ·exact value_255 _ ez w bits hi lo text more sub ab nb cb ak nk ck (fun W=>rest_255 _ ez W bits hi lo text more sub ab nb cb ak nk ck h2)
theorem val_all:∀ d,d≤40000→ValSaid d
 | 0,_=>fun t ht=>by have:2≤t.wt:=(by cases t;simp only [T.wt];omega);omega
 | d+1,hd=>val_step d (by omega) (val_all d (by omega))
def DocJ (f:F) (w:World) (e:Ending) (w':World):Prop:=
 ∃ (a:Option Addr) (n c:Nat) (j:J),e=.returned (.tuple #[.agg (jCells 7 ⟨#[]⟩ a n c),.agg #[.int .i64 0,.int .i64 0,.slice none 0 0]])∧RdJ (fun _=>True) w' j (jCells 7 ⟨#[]⟩ a n c)∧checkJ j=0∧wtJ j≤2+80 * f.wt∧Below w.heap.size w w'
theorem jk_open {S:Nat→Prop} {B:Nat} {w:World} {e:Ending} {w':World} (h:PlK w e w'∧JO S B w e w'):∃ (a:Option Addr) (n c:Nat) (j:J),e=.returned (.agg (jCells 7 ⟨#[]⟩ a n c))∧RdJ (fun k=>S k∨w.heap.size≤k) w' j (jCells 7 ⟨#[]⟩ a n c)∧checkJ j=0∧wtJ j≤B∧Below w.heap.size w w':=by
 obtain ⟨⟨a,n,c,rfl⟩,v,he,⟨k,x,ak,nk,ck,j,rfl,h1,h2,h3⟩,hb⟩:=h
 have e2:jCells 7 ⟨#[]⟩ a n c=jCells k x ak nk ck:=by injection he with he;injection he
 exact ⟨a,n,c,j,rfl,by rw [e2];exact h1,h2,h3,hb⟩
theorem three_boxesJ (w:World) (cs:Array Value):let wa:=((w.alloc (.cells cs 26)).alloc (.cells (jCells 0 ⟨#[]⟩ none 0 0) 53)).alloc (.cells #[.int .i64 0,.int .i64 0,.slice none 0 0] 32)
  BoxJ3 wa (w.heap.size+1) z3j∧FBox wa (w.heap.size+2)∧Below w.heap.size w wa:=by
 intro wa
 refine ⟨(BoxJ3.newG _ _ _ _ (by simp)).keep ((Below.refl _ _).alloc (Nat.le_refl _) _),?_,(((Below.refl _ _).alloc (Nat.le_refl _) _).alloc (by simp) _).alloc (by simp;omega) _⟩
 refine ⟨?_,?_,?_,?_,?_,?_,?_⟩<;>simp [wa,go_sem]
set_option maxRecDepth 100000 in
set_option maxHeartbeats 4000000 in
theorem json25_calls (ez:Bool) (w:World) (bits hi lo:Nat) (text more:ByteArray) (sub:Int) (bs:List UInt8) (f:F) (c:Array Value) (h:RdT w (.mk 3 bits hi lo text more sub bs f) c) (hw:(T.mk 3 bits hi lo text more sub bs f).wt≤40000)
  (hc:chk (.mk 3 bits hi lo text more sub bs f)=none):Calls Tryz.prog 18 #[.agg c,.bool ez] w (DocJ f w):=by
 have CK:=Lib.hid (fun W (hW:Below w.heap.size w W)=>rcheck2_calls _ W c (h.keep hW) (by omega))
 have hok:=OkT.of _ _ _ hc
 have hs:=h
 obtain ⟨ab,nb,cb,ak,nk,ck,rfl,ho,hb,hl,⟨hn9,hra,hrb⟩,hk⟩:=hs
 have hwf:f.wt≤40000:=by simp only [T.wt] at hw;omega
 have HM:=Lib.hid (fun W (hW:Below w.heap.size w W)=>(plain25_kind f.wt (val_all f.wt (by omega)) f ez W ak nk ck (hk.keep hW) hl (Nat.le_refl _) (by omega) hok.1.2.2.2.2).mono fun _ _ h=>jk_open h)
 have HCN:=Lib.hid hc
 obtain ⟨wa,hwa⟩:∃ W,W=(((w.alloc (.cells (valCells 3 bits hi lo text more sub ab nb cb ak nk ck) 26)).alloc (.cells (jCells 0 ⟨#[]⟩ none 0 0) 53)).alloc (.cells #[.int .i64 0,.int .i64 0,.slice none 0 0] 32)):=⟨_,rfl⟩
 have HB3:Hid (BoxJ3 wa (w.heap.size+1) z3j∧FBox wa (w.heap.size+2)∧Below w.heap.size w wa):=Lib.hid (by rw [hwa];exact three_boxesJ w _)
 have HBV:Hid (BoxV wa w.heap.size (valCells 3 bits hi lo text more sub ab nb cb ak nk ck)):=Lib.hid (by rw [hwa];exact (BoxV.new w _ _).keep (((Below.refl _ _).alloc (Nat.le_refl _) _).alloc (by simp) _))
 clear h hw hc hok ho hb hl hn9 hra hrb hk hwf
 obtain ⟨f0,f1,f2,f3,f4,f5,f6,f7,f8,l0⟩:=HBV.out.nine
 go_enter Tryz.func18,Tryz.ntmps18
 go_upto_region 1 with fail
 rw [← hwa]
 clear hwa
 go_wp2_with fail
 refine (CK.out _ HB3.out.2.2).mono ?_
 rintro e w1 ⟨aP,nP,cP,rfl,hnP,hmP,hrP,hcP,hb1⟩
 have hE:errN (chk (.mk 3 bits hi lo text more sub bs f))=0:=by rw [HCN.out];rfl
 rw [hE]
 have HBW1:=Lib.hid (HB3.out.2.2.trans (hb1.mono HB3.out.2.2.size))
 have HBV1:=Lib.hid (HBV.out.keep hb1)
 have HX1:=Lib.hid (HB3.out.1.keep hb1)
 have HF1:=Lib.hid (HB3.out.2.1.keep hb1)
 clear hnP hmP hrP hcP hb1 hE f0 f1 f2 f3 f4 f5 f6 f7 f8 l0
 obtain ⟨f0,f1,f2,f3,f4,f5,f6,f7,f8,l0⟩:=HBV1.out.nine
 go_wp2_with fail
 refine (HM.out _ HBW1.out).mono ?_
 rintro e w2 ⟨a9,n9,c9,j9,rfl,hr9,hev,hge,hb2⟩
 have HBW2:=Lib.hid (HBW1.out.trans (hb2.mono HBW1.out.size))
 have HX2:=Lib.hid (HX1.out.keep hb2)
 have HF2:=Lib.hid (HF1.out.keep hb2)
 have HIT:Hid (RdJ (fun k=>¬ (k=w.heap.size+1∨k=w.heap.size+2)) w2 j9 (jCells 7 ⟨#[]⟩ a9 n9 c9)):=Lib.hid (hr9.imp (fun i _ h=>by have hz:=HF1.out.2.2.2.2.2.2;rcases h with h|h;exact h.elim;omega))
 have HH:=Lib.hid (And.intro hev hge)
 clear hr9 hev hge hb2 f0 f1 f2 f3 f4 f5 f6 f7 f8 l0
 obtain ⟨p0,p1,p2,r0,r1,r2,r5⟩:=HX2.out.three
 obtain ⟨q0,q1,q2,t0,t1,t2,t3⟩:=HF2.out
 have HFN:Hid (∀ W',Chg (fun k=>k=w.heap.size+1∨k=w.heap.size+2) w2 W'→DocJ f w (.returned (.tuple #[.agg (jCells 7 ⟨#[]⟩ a9 n9 c9),.agg #[.int .i64 0,.int .i64 0,.slice none 0 0]])) W'):=Lib.hid fun W' hC=>
  ⟨a9,n9,c9,j9,rfl,(HIT.out.keep (KeepS.chg hC (fun k hk=>hk))).imp (fun _ _ _=>trivial),HH.out.1,HH.out.2,HBW2.out.trans (hC.below HBW2.out.size (fun i hi=>by omega))⟩
 go_wp2_with fail
 refine bodyPost_ret (v:=.tuple #[.agg (jCells 7 ⟨#[]⟩ a9 n9 c9),.agg #[.int .i64 0,.int .i64 0,.slice none 0 0]]) (by simp [results,Tryz.results18,go_sem, *]) rfl ?_
 refine HFN.out _ ?_
 (repeat' (first|with_reducible exact Chg.refl _ _|with_reducible refine Chg.setCell ?_ (fun h=>?_) _))
 all_goals (dsimp only;omega)
set_option maxRecDepth 100000 in
set_option maxHeartbeats 4000000 in
theorem rprint25_calls (j:J) (hw:wtJ j≤100000) (hq:checkJ j=0) (S:Nat→Prop) (w:World) (c:Array Value) (h:RdJ S w j c) :
  Calls Tryz.prog 19 #[.agg c] w fun e w'=>e=.returned (.tuple #[.string (txt (printJ j)),.int .i64 0])∧Below w.heap.size w w':=by
 have hc0:=h
 have CC:=Lib.hid (fun S W c=>rchk_all (wtJ j) j (Nat.le_refl _) S W c)
 have CL:=Lib.hid (fun S W c=>prt_all (wtJ j) j (Nat.le_refl _) hq hw S W c)
 rw [hq] at CC
 have HR:=Lib.hid hc0
 have hs3:∃ (k:Int) (x:ByteArray) (ak:Option Addr) (nk ck:Nat),c=jCells k x ak nk ck:=by
  cases j with
  | mk k t m=>obtain ⟨x,ak,nk,ck,rfl,_⟩:=h;exact ⟨k,x,ak,nk,ck,rfl⟩
 obtain ⟨k,x,ak,nk,ck,rfl⟩:=hs3
 have hB1:Below w.heap.size w (w.alloc (.cells (jCells k x ak nk ck) 53)):=(Below.refl _ _).alloc (Nat.le_refl _) _
 have HB1:=Lib.hid hB1
 have HW2:=Lib.hid hw
 clear h hc0 hB1 hq hw
 go_enter Tryz.func19,Tryz.ntmps19
 go_wp2_with fail
 refine (CC.out _ _ _ (HR.out.below HB1.out) HW2.out).mono ?_
 rintro e w2 ⟨rfl,hb2⟩
 have f0:w2.cell? ⟨w.heap.size,0,none⟩=some (.int .i64 k):=cell_below hb2 (by simp [go_sem])
 have f1:w2.cell? ⟨w.heap.size,1,none⟩=some (.string x):=cell_below hb2 (by simp [go_sem])
 have f2:w2.cell? ⟨w.heap.size,2,none⟩=some (.slice ak nk ck):=cell_below hb2 (by simp [go_sem])
 have HB2:=Lib.hid (HB1.out.trans (hb2.mono (by simp)))
 have HR2:=Lib.hid ((HR.out.below HB1.out).below hb2)
 clear hb2
 go_wp2_with fail
 refine (CL.out _ _ _ HR2.out).mono ?_
 rintro e w3 ⟨⟨v3,rfl,hsv⟩,hb3⟩
 obtain ⟨a9,m9,c9,rfl,hr9,_⟩:=hsv
 have hcv:=conv_str hr9 c9
 have HB3:=Lib.hid (HB2.out.trans (hb3.mono HB2.out.size))
 clear hr9 hb3
 go_wp2_with fail
 go_ret2
 exact ⟨rfl,HB3.out⟩
theorem print_obj {S:Nat→Prop} {w:World} {j:J} {a:Option Addr} {n c:Nat} (h:RdJ S w j (jCells 7 ⟨#[]⟩ a n c)) (hw:wtJ j≤100000):∃ l:List UInt8,printJ j=123::(l++[125])∧l.length≤900000:=by
 have hp:=print_wt j
 cases j with
 | mk k t m=>
  obtain ⟨x,ak,nk,ck,e,-⟩:=h
  have hk:k=7:=by
   have h0:=congrArg (fun q:Array Value=>q[0]?) e
   simp [jCells] at h0
   exact h0.symm
  subst hk
  refine ⟨printM true true m,by simp [printJ],?_⟩
  simp [printJ] at hp
  omega
def DocS (w:World) (e:Ending) (w':World):Prop:=
 (∃ l:List UInt8,e=.returned (.tuple #[.string (txt (123::(l++[125]))),.agg #[.int .i64 0,.int .i64 0,.slice none 0 0]])∧l.length≤900000)∧Below w.heap.size w w'
set_option maxRecDepth 100000 in
set_option maxHeartbeats 4000000 in
theorem text25_calls (ez:Bool) (w:World) (bits hi lo:Nat) (text more:ByteArray) (sub:Int) (bs:List UInt8) (f:F) (c:Array Value) (h:RdT w (.mk 3 bits hi lo text more sub bs f) c) (hw:(T.mk 3 bits hi lo text more sub bs f).wt≤1200)
  (hc:chk (.mk 3 bits hi lo text more sub bs f)=none):Calls Tryz.prog 7 #[.agg c,.bool ez] w (DocS w):=by
 have CJ:=Lib.hid (fun W (hW:Below w.heap.size w W)=>json25_calls ez W bits hi lo text more sub bs f c (h.keep hW) (by omega) hc)
 have hwf:f.wt≤1200:=by simp only [T.wt] at hw;omega
 have HWF:=Lib.hid hwf
 obtain ⟨ab,nb,cb,ak,nk,ck,rfl,-⟩:=h
 obtain ⟨wa,hwa⟩:∃ W,W=((w.alloc (.cells (valCells 3 bits hi lo text more sub ab nb cb ak nk ck) 26)).alloc (.cells #[.int .i64 0,.int .i64 0,.slice none 0 0] 32)):=⟨_,rfl⟩
 have HBA:Hid (Below w.heap.size w wa):=Lib.hid (by rw [hwa];exact ((Below.refl _ _).alloc (Nat.le_refl _) _).alloc (by simp) _)
 have HFA:Hid (FBox wa (w.heap.size+1)):=Lib.hid (by rw [hwa];refine ⟨?_,?_,?_,?_,?_,?_,?_⟩<;>simp [go_sem])
 have HBV:Hid (BoxV wa w.heap.size (valCells 3 bits hi lo text more sub ab nb cb ak nk ck)):=Lib.hid (by rw [hwa];exact (BoxV.new w _ _).keep ((Below.refl _ _).alloc (Nat.le_refl _) _))
 clear hw hc hwf
 obtain ⟨f0,f1,f2,f3,f4,f5,f6,f7,f8,l0⟩:=HBV.out.nine
 go_enter Tryz.func7,Tryz.ntmps7
 go_upto_region 1 with fail
 rw [← hwa]
 clear hwa
 go_wp2_with fail
 refine (CJ.out _ HBA.out).mono ?_
 rintro e w1 ⟨a9,n9,c9,j9,rfl,hr9,hev,hge,hb1⟩
 have HFA1:=Lib.hid (HFA.out.keep hb1)
 obtain ⟨w2,hw2⟩:∃ W,W=(w1.alloc (.cells (jCells 7 ⟨#[]⟩ a9 n9 c9) 53)).alloc (.cells #[.int .i64 0,.int .i64 0,.slice none 0 0] 32):=⟨_,rfl⟩
 have hb2:Below w1.heap.size w1 w2:=by rw [hw2];exact ((Below.refl _ _).alloc (Nat.le_refl _) _).alloc (by simp) _
 have HBW2:=Lib.hid ((HBA.out.trans (hb1.mono HBA.out.size)).trans (hb2.mono (Nat.le_trans HBA.out.size hb1.size)))
 have HF2:=Lib.hid (HFA1.out.keep hb2)
 have HJ2:=Lib.hid (hr9.below hb2)
 have HE:=Lib.hid (And.intro hev (show wtJ j9≤100000 by have:=HWF.out;omega))
 have g0:w2.cell? ⟨w1.heap.size+1,0,none⟩=some (.int .i64 0):=by rw [hw2];simp [go_sem]
 have g1:w2.cell? ⟨w1.heap.size,0,none⟩=some (.int .i64 7):=by rw [hw2];simp [go_sem]
 have g2:w2.cell? ⟨w1.heap.size,1,none⟩=some (.string ⟨#[]⟩):=by rw [hw2];simp [go_sem]
 have g3:w2.cell? ⟨w1.heap.size,2,none⟩=some (.slice a9 n9 c9):=by rw [hw2];simp [go_sem]
 clear hr9 hev hge hb1 hb2 f0 f1 f2 f3 f4 f5 f6 f7 f8 l0
 go_upto_region 2 with fail
 rw [← hw2]
 clear hw2
 go_wp2_with fail
 refine (rprint25_calls j9 HE.out.2 HE.out.1 _ _ _ HJ2.out).mono ?_
 rintro e w3 ⟨rfl,hb3⟩
 obtain ⟨l,hl,hl9⟩:=print_obj HJ2.out HE.out.2
 rw [hl]
 have HBW3:=Lib.hid (HBW2.out.trans (hb3.mono HBW2.out.size))
 obtain ⟨q0,q1,q2,t0,t1,t2,t3⟩:=HF2.out.keep hb3
 have HL:=Lib.hid hl9
 have HFN:Hid (∀ W',Chg (fun k=>k=w.heap.size+1) w3 W'→DocS w (.returned (.tuple #[.string (txt (123::(l++[125]))),.agg #[.int .i64 0,.int .i64 0,.slice none 0 0]])) W'):=Lib.hid fun W' hC=>
  ⟨⟨l,rfl,HL.out⟩,HBW3.out.trans (hC.below HBW3.out.size (fun i hi=>by omega))⟩
 obtain ⟨tx,htx⟩:∃ x,x=txt (123::(l++[125])):=⟨_,rfl⟩
 rw [← htx] at HFN ⊢
 clear hl hl9 hb3 htx g0 g1 g2 g3
 go_wp2_with fail
 refine bodyPost_ret (v:=.tuple #[.string tx,.agg #[.int .i64 0,.int .i64 0,.slice none 0 0]]) (by simp [results,Tryz.results7,go_sem, *]) rfl ?_
 refine HFN.out _ ?_
 (repeat' (first|with_reducible exact Chg.refl _ _|with_reducible refine Chg.setCell ?_ (fun h=>?_) _))
 all_goals (dsimp only)
end Go.Proofs.YtmooaepbdmengaaGreatDoor
