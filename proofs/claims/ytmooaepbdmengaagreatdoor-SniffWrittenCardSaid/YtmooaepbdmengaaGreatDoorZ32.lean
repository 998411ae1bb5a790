/- Parts of the proof of SniffWritten: JvB. -/
import Derived.Test.YtmooaepbdmengaaGreatDoorZ29
import Derived.Test.YtmooaepbdmengaaGreatDoorZ31
import Derived.Test.YtmooaepbdmengaaGreatDoorZ25
import Derived.Test.YtmooaepbdmengaaGreatDoorZ11
import Derived.Test.YtmooaepbdmengaaGreatDoorZ02
import Derived.Test.YtmooaepbdmengaaGreatDoorZ28
namespace Go.Proofs.YtmooaepbdmengaaGreatDoor
open Go.RowKit
set_option linter.unusedVariables false
set_option linter.unusedSimpArgs false
def WhN (N:Nat) (s:ByteArray):Prop:=Wh s∧s.size≤N
theorem WhN.lit {N:Nat} {s:ByteArray} (h:(sl s).all (fun c=>decide (c.toNat < 128))=true) (h2:s.size≤N) (h3:N≤1000):WhN N s:=
 ⟨Wh.asc (fun c hc=>by simpa using List.all_eq_true.1 h c hc) (by omega),h2⟩
theorem one25N {N:Nat} {nm:ByteArray} (hn:WhN N nm) {v:Value} {S:Nat→Prop} {B:Nat} {w:World} (hv:JV S B w v):Calls Tryz.prog 79 #[.string nm,v] w (JO S (2+N+B) w):=
 (one25_calls nm hn.1 v S B w hv).mono fun _ _ h=>h.imp (fun _ h=>h) (by have:=hn.2;omega)
theorem two25N {N M:Nat} {nm nm2:ByteArray} (hn:WhN N nm) (hm:WhN M nm2) {v v2:Value} {S:Nat→Prop} {B B2:Nat} {w:World} (hv:JV S B w v) (hv2:JV S B2 w v2):Calls Tryz.prog 80 #[.string nm,v,.string nm2,v2] w (JO S (2+N+B+M+B2) w):=
 (two25_calls nm hn.1 v nm2 hm.1 v2 S B B2 w hv hv2).mono fun _ _ h=>h.imp (fun _ h=>h) (by have:=hn.2;have:=hm.2;omega)
def TxO (n:Nat) (w:World) (e:Ending) (w':World):Prop:=(∃ s,e=.returned (.string s)∧AscS n s)∧Below w.heap.size w w'
theorem AscS.wh {n:Nat} {s:ByteArray} (h:AscS n s) (hn:n≤1000000):Wh s:=Wh.asc h.1 (by have:=h.2;omega)
theorem asc_hex (l:List UInt8):Asc (hexL l):=by
 intro c hc
 simp only [hexL,List.mem_flatten,List.mem_map] at hc
 obtain ⟨_,⟨x,_,rfl⟩,hc⟩:=hc
 have key:∀ i:Fin 16,(hexC i).toNat < 128:=by decide
 have h1:=x.toNat_lt
 simp only [List.mem_cons,List.not_mem_nil,or_false] at hc
 rcases hc with rfl|rfl
 ·exact key ⟨x.toNat / 16,by omega⟩
 ·exact key ⟨x.toNat % 16,by omega⟩
theorem asc_sg (i:Nat):(sg i).toNat < 128:=by
 by_cases h:i < 64
 ·have key:∀ i:Fin 64,(sg i).toNat < 128:=by decide
  exact key ⟨i,h⟩
 ·have:sg i=0:=by
   unfold sg
   rw [List.getD_eq_getElem?_getD,List.getElem?_eq_none (by show sgl.length≤i;have:sgl.length=64:=rfl;omega)]
   rfl
  rw [this];decide
theorem asc_b64:∀ l:List UInt8,Asc (b64 l)
 | []=>fun c hc=>by simp [b64] at hc
 | [x]=>fun c hc=>by
  simp only [b64,List.mem_cons,List.not_mem_nil,or_false] at hc
  rcases hc with rfl|rfl|rfl|rfl<;>first|exact asc_sg _|decide
 | [x,y]=>fun c hc=>by
  simp only [b64,List.mem_cons,List.not_mem_nil,or_false] at hc
  rcases hc with rfl|rfl|rfl|rfl<;>first|exact asc_sg _|decide
 | x::y::z::r=>fun c hc=>by
  simp only [b64,List.mem_cons] at hc
  rcases hc with rfl|rfl|rfl|rfl|hc
  ·exact asc_sg _
  ·exact asc_sg _
  ·exact asc_sg _
  ·exact asc_sg _
  ·exact asc_b64 r c hc
theorem ascS_txt {l:List UInt8} {n:Nat} (h:Asc l) (hl:l.length≤n):AscS n (txt l):=⟨by rw [sl_txt];exact h,by rw [txt_size];exact hl⟩
theorem hexT_calls (a:Option Addr) (n c:Nat) (l:List UInt8) (w:World) (h:RdB w a n l) (hn:n≤100000):Calls Tryz.prog 82 #[.slice a n c] w (TxO (2 * n) w):=
 (hex_calls a n c l w h hn).mono fun _ _ h9=>⟨⟨_,h9.1,ascS_txt (asc_hex l) (by rw [hexL_len,h.1];exact Nat.le_refl _)⟩,h9.2⟩
theorem baseT_calls (a:Option Addr) (n c:Nat) (l:List UInt8) (w:World) (h:RdB w a n l) (hn:n≤100000):Calls Tryz.prog 81 #[.slice a n c] w (TxO (2 * n+4) w):=
 (rbase_calls a n c l w h hn).mono fun _ _ h9=>⟨⟨_,h9.1,ascS_txt (asc_b64 l) (by rw [b64_len,h.1];omega)⟩,h9.2⟩
theorem intT_calls (v:Int) (h1:-9223372036854775808≤v) (h2:v≤9223372036854775807) (w:World):Calls Tryz.prog 93 #[.int .i64 v] w fun e w'=>(∃ s,e=.returned (.string s)∧AscS 21 s∧lexeme (sl s)≠0)∧Below w.heap.size w w':=by
 have hd:=digL_num v.natAbs (by omega)
 refine (int_calls v h1 h2 w).mono fun _ _ h9=>⟨⟨_,h9.1,ascS_txt ?_ ?_,?_⟩,h9.2⟩
 ·unfold intL
  split
  ·intro c hc
   simp only [List.mem_cons] at hc
   rcases hc with rfl|hc
   ·decide
   ·exact Asc.digs (AllD.of_dig hd.1.1) c hc
  ·exact Asc.digs (AllD.of_dig hd.1.1)
 ·unfold intL
  split
  ·simp only [List.length_cons];omega
  ·omega
 ·rw [sl_txt]
  refine NumF.lex ?_
  unfold intL
  split
  ·exact ⟨[45],digL 19 v.natAbs [],[],[],by simp,.inr rfl,AllD.of_dig hd.1.1,hd.1.2.1,hd.1.2.2,.inl rfl,.inl rfl⟩
  ·exact ⟨[],digL 19 v.natAbs [],[],[],by simp,.inl rfl,AllD.of_dig hd.1.1,hd.1.2.1,hd.1.2.2,.inl rfl,.inl rfl⟩
theorem digT_calls (v:Nat) (hv:v < 18446744073709551616) (w:World):Calls Tryz.prog 83 #[.int .u64 (v:Nat)] w fun e w'=>(∃ s,e=.returned (.string s)∧AscS 20 s∧lexeme (sl s)≠0)∧Below w.heap.size w w':=by
 have hd:=digL_num v hv
 refine (digits_calls v hv w).mono fun _ _ h9=>⟨⟨_,h9.1,ascS_txt (Asc.digs (AllD.of_dig hd.1.1)) hd.2,?_⟩,h9.2⟩
 rw [sl_txt]
 exact NumF.lex ⟨[],digL 19 v [],[],[],by simp,.inl rfl,AllD.of_dig hd.1.1,hd.1.2.1,hd.1.2.2,.inl rfl,.inl rfl⟩
set_option maxRecDepth 100000 in
set_option maxHeartbeats 4000000 in
theorem hex25_calls (v:Nat) (hv:v < okSize) (w:World):Calls Tryz.prog 94 #[.int .u64 (v:Nat)] w (TxO 16 w):=by
 have CP:=Lib.hid (fun W=>putHigh_calls v 8 hv W)
 have CH:=Lib.hid (fun a n c l W h hn=>hexT_calls a n c l W h hn)
 have hl8:(putHighS v 8).length=8:=by simp [putHighS,putLowS,leBytes_length]
 generalize putHighS v 8=l8 at CP hl8
 clear hv
 go_enter Tryz.func94,Tryz.ntmps94
 go_wp2_with fail
 refine (CP.out _).mono ?_
 rintro e w1 ⟨u,rfl,ho,hb1⟩
 obtain ⟨a,c,rfl,hr⟩:=ho.reads
 rw [hl8] at hr ⊢
 have HB1:=Lib.hid hb1
 have HR:=Lib.hid hr
 clear ho hr hb1 CP
 go_wp2_with fail
 refine (CH.out a 8 c l8 _ HR.out (by omega)).mono ?_
 rintro e w2 ⟨⟨s,rfl,hs⟩,hb2⟩
 have HB2:=Lib.hid (HB1.out.trans (hb2.mono HB1.out.size))
 have HS:=Lib.hid hs
 clear hb2 hs
 go_wp2_with fail
 go_ret
 exact ⟨⟨s,rfl,HS.out⟩,HB2.out⟩
set_option maxRecDepth 100000 in
set_option maxHeartbeats 4000000 in
theorem double25_calls (b:Nat) (hb:b < 18446744073709551616) (w:World):Calls Tryz.prog 77 #[.int .u64 (b:Nat)] w (JO (fun _=>False) 77 w):=by
 have CS:=Lib.hid (fun W=>rsplit_calls b hb W)
 have CT:=Lib.hid (fun W=>short_calls b hb W)
 have CH:=Lib.hid (fun W=>hex25_calls b hb W)
 have CR:=Lib.hid (fun s W=>str25_calls s W)
 obtain ⟨K,hK⟩:∃ K,(splK b).1=K:=⟨_,rfl⟩
 generalize splK b=S at CS CT hK
 obtain ⟨k,ng,m,ee⟩:=S
 dsimp only at hK
 subst hK
 obtain ⟨wa,hwa⟩:∃ W,W=w.alloc (.cells (jCells 0 ⟨#[]⟩ none 0 0) 53):=⟨_,rfl⟩
 have HBA:Hid (Below w.heap.size w wa):=Lib.hid (by rw [hwa];exact (Below.refl _ _).alloc (Nat.le_refl _) _)
 have HXA:Hid (BoxJ3 wa w.heap.size z3j):=Lib.hid (by rw [hwa];exact BoxJ3.new _ _ _)
 clear hb
 by_cases hc:k=4∧b≠9221120237041090560
 ·have d1:((k:Int) == 4)=true:=by rw [hc.1];rfl
  have d2:((b:Int) != 9221120237041090560)=true:=by simp;omega
  clear hc
  go_enter Tryz.func77,Tryz.ntmps77
  go_upto_region 1 with fail
  rw [← hwa]
  clear hwa
  go_wp2_with fail
  refine (CS.out _).mono ?_
  rintro e w1 ⟨rfl,hw1⟩
  rw [← hw1]
  clear hw1
  go_wp2_with fail
  refine (CH.out _).mono ?_
  rintro e w2 ⟨⟨s,rfl,hs⟩,hb2⟩
  have HB2:=Lib.hid hb2
  have HS:=Lib.hid hs
  clear hb2 hs d1 d2
  go_wp2_with fail
  refine (CR.out s _).mono ?_
  rintro e w3 ⟨rfl,hb3⟩
  have HB3:=Lib.hid (HB2.out.trans (hb3.mono HB2.out.size))
  clear hb3
  go_wp2_with fail
  refine (one25N (N:=11) (WhN.lit rfl (by decide) (by omega)) (jv_str (fun _=>False) _ s (HS.out.wh (by omega)))).mono ?_
  rintro e w4 ⟨v4,rfl,hj,hb4⟩
  have HB4:=Lib.hid (HB3.out.trans (hb4.mono HB3.out.size))
  have HX4:=Lib.hid (HXA.out.keep HB4.out)
  have HJ:Hid (JV (fun k=>False∨w.heap.size+1≤k) 77 w4 v4):=Lib.hid (hj.imp (fun i _ h=>h.imp id (fun h=>by have h1:=HXA.out.1;have h2:=HB3.out.size;omega)) (by have:=HS.out.2;omega))
  clear hb4 hj
  have hj:=HJ.out
  obtain ⟨k9,x9,a9,n9,c9,j9,rfl,-⟩:=hj
  obtain ⟨c0,c1,c2,r0,r1,r2,l1⟩:=HX4.out.three
  have HBW:=Lib.hid (HBA.out.trans (HB4.out.mono HBA.out.size))
  go_wp2_with fail
  refine bodyPost_ret (v:=.agg (jCells k9 x9 a9 n9 c9)) (by simp [results,Tryz.results77,go_sem, *]) rfl ?_
  refine jo_fin (g:=w.heap.size) (S:=fun _=>False) (fun _ h=>h.elim) (Nat.le_refl _) HJ.out (Nat.le_refl _) HBW.out ?_
  iterate 3 (refine Chg.set2 ?_ (by exact rfl) _ _)
  exact Chg.refl _ _
 by_cases h4:k=4
 ·have d1:((k:Int) == 4)=true:=by rw [h4];rfl
  have d2:((b:Int) != 9221120237041090560)=false:=by
   have:b=9221120237041090560:=Classical.byContradiction fun h=>hc ⟨h4,h⟩
   rw [this];rfl
  clear h4
  clear hc
  go_enter Tryz.func77,Tryz.ntmps77
  go_upto_region 1 with fail
  rw [← hwa]
  clear hwa
  go_wp2_with fail
  refine (CS.out _).mono ?_
  rintro e w1 ⟨rfl,hw1⟩
  rw [← hw1]
  clear hw1
  go_wp2_with fail
  refine (CT.out _).mono ?_
  rintro e w2 ⟨⟨s,rfl,hs⟩,hb2⟩
  have HB2:=Lib.hid hb2
  have HS:=Lib.hid hs
  clear hb2 hs
  go_wp2_with fail
  refine (CR.out s _).mono ?_
  rintro e w3 ⟨rfl,hb3⟩
  have HB3:=Lib.hid (HB2.out.trans (hb3.mono HB2.out.size))
  clear hb3
  go_wp2_with fail
  refine (one25N (N:=13) (WhN.lit rfl (by decide) (by omega)) (jv_str (fun _=>False) _ s (Wh.asc HS.out.1 (by have:=HS.out.2.1;omega)))).mono ?_
  rintro e w4 ⟨v4,rfl,hj,hb4⟩
  have HB4:=Lib.hid (HB3.out.trans (hb4.mono HB3.out.size))
  have HX4:=Lib.hid (HXA.out.keep HB4.out)
  have HJ:Hid (JV (fun k=>False∨w.heap.size+1≤k) 77 w4 v4):=Lib.hid (hj.imp (fun i _ h=>h.imp id (fun h=>by have h1:=HXA.out.1;have h2:=HB3.out.size;omega)) (by have:=HS.out.2.1;omega))
  clear hb4 hj
  have hj:=HJ.out
  obtain ⟨k9,x9,a9,n9,c9,j9,rfl,-⟩:=hj
  obtain ⟨c0,c1,c2,r0,r1,r2,l1⟩:=HX4.out.three
  have HBW:=Lib.hid (HBA.out.trans (HB4.out.mono HBA.out.size))
  go_wp2_with fail
  refine bodyPost_ret (v:=.agg (jCells k9 x9 a9 n9 c9)) (by simp [results,Tryz.results77,go_sem, *]) rfl ?_
  refine jo_fin (g:=w.heap.size) (S:=fun _=>False) (fun _ h=>h.elim) (Nat.le_refl _) HJ.out (Nat.le_refl _) HBW.out ?_
  iterate 3 (refine Chg.set2 ?_ (by exact rfl) _ _)
  exact Chg.refl _ _
 ·have d1:((k:Int) == 4)=false:=by simp;omega
  clear h4
  clear hc
  go_enter Tryz.func77,Tryz.ntmps77
  go_upto_region 1 with fail
  rw [← hwa]
  clear hwa
  go_wp2_with fail
  refine (CS.out _).mono ?_
  rintro e w1 ⟨rfl,hw1⟩
  rw [← hw1]
  clear hw1
  go_wp2_with fail
  refine (CT.out _).mono ?_
  rintro e w2 ⟨⟨s,rfl,hs⟩,hb2⟩
  have HB2:=Lib.hid hb2
  have HS:=Lib.hid hs
  clear hb2 hs
  go_wp2_with fail
  refine (CR.out s _).mono ?_
  rintro e w3 ⟨rfl,hb3⟩
  have HB3:=Lib.hid (HB2.out.trans (hb3.mono HB2.out.size))
  clear hb3
  go_wp2_with fail
  refine (one25N (N:=13) (WhN.lit rfl (by decide) (by omega)) (jv_str (fun _=>False) _ s (Wh.asc HS.out.1 (by have:=HS.out.2.1;omega)))).mono ?_
  rintro e w4 ⟨v4,rfl,hj,hb4⟩
  have HB4:=Lib.hid (HB3.out.trans (hb4.mono HB3.out.size))
  have HX4:=Lib.hid (HXA.out.keep HB4.out)
  have HJ:Hid (JV (fun k=>False∨w.heap.size+1≤k) 77 w4 v4):=Lib.hid (hj.imp (fun i _ h=>h.imp id (fun h=>by have h1:=HXA.out.1;have h2:=HB3.out.size;omega)) (by have:=HS.out.2.1;omega))
  clear hb4 hj
  have hj:=HJ.out
  obtain ⟨k9,x9,a9,n9,c9,j9,rfl,-⟩:=hj
  obtain ⟨c0,c1,c2,r0,r1,r2,l1⟩:=HX4.out.three
  have HBW:=Lib.hid (HBA.out.trans (HB4.out.mono HBA.out.size))
  go_wp2_with fail
  refine bodyPost_ret (v:=.agg (jCells k9 x9 a9 n9 c9)) (by simp [results,Tryz.results77,go_sem, *]) rfl ?_
  refine jo_fin (g:=w.heap.size) (S:=fun _=>False) (fun _ h=>h.elim) (Nat.le_refl _) HJ.out (Nat.le_refl _) HBW.out ?_
  iterate 3 (refine Chg.set2 ?_ (by exact rfl) _ _)
  exact Chg.refl _ _
def BrO (k:Nat) (ng:Bool) (w:World) (e:Ending) (w':World):Prop:=(∃ t:Bool,e=.returned (.bool t)∧(t=true→k=2∨(k=1∧ng=false)))∧Below w.heap.size w w'
set_option maxRecDepth 100000 in
set_option maxHeartbeats 4000000 in
theorem bare25_calls (b:Nat) (hb:b < 18446744073709551616) (w:World):Calls Tryz.prog 74 #[.int .u64 (b:Nat)] w fun e w'=>BrO (splK b).1 (splK b).2.1 w e w':=by
 have CS:=Lib.hid (fun W=>rsplit_calls b hb W)
 have CT:=Lib.hid (fun W=>short_calls b hb W)
 have CL:=Lib.hid (fun s h W=>rlexeme_calls s h W)
 generalize splK b=S at CS CT
 obtain ⟨k,ng,m,ee⟩:=S
 clear hb
 by_cases h2:k=2
 ·have d1:((k:Int) != 2)=false:=by rw [h2];rfl
  go_enter Tryz.func74,Tryz.ntmps74
  go_wp2_with fail
  refine (CS.out _).mono ?_
  rintro e w1 ⟨rfl,hw1⟩
  rw [← hw1]
  clear hw1
  go_wp2_with fail
  refine (CT.out _).mono ?_
  rintro e w2 ⟨⟨s,rfl,hs⟩,hb2⟩
  have HB2:=Lib.hid hb2
  have HS:=Lib.hid hs
  clear hb2 hs
  go_wp2_with fail
  refine (CL.out s (by have:=HS.out.2.1;omega) _).mono ?_
  rintro e w3 ⟨rfl,hb3⟩
  have HB3:=Lib.hid (HB2.out.trans (hb3.mono HB2.out.size))
  clear hb3
  generalize lexeme (sl s)=R
  have HK:=Lib.hid h2
  clear h2
  by_cases hR:R=2
  ·have d2:((R:Int) == 2)=true:=by rw [hR];rfl
   clear hR
   go_wp2_with fail
   go_ret
   exact ⟨⟨_,rfl,fun _=>.inl HK.out⟩,HB3.out⟩
  ·have d2:((R:Int) == 2)=false:=by simp;omega
   clear hR
   go_wp2_with fail
   go_ret
   exact ⟨⟨_,rfl,fun _=>.inl HK.out⟩,HB3.out⟩
 ·have d1:((k:Int) != 2)=true:=by simp;omega
  by_cases h1:k=1
  ·subst h1
   clear h2
   cases ng with
   | true=>
    go_enter Tryz.func74,Tryz.ntmps74
    go_wp2_with fail
    refine (CS.out _).mono ?_
    rintro e w1 ⟨rfl,hw1⟩
    rw [← hw1]
    clear hw1
    go_wp2_with fail
    go_ret
    exact ⟨⟨false,rfl,fun h=>absurd h (by decide)⟩,Below.refl _ _⟩
   | false=>
    go_enter Tryz.func74,Tryz.ntmps74
    go_wp2_with fail
    refine (CS.out _).mono ?_
    rintro e w1 ⟨rfl,hw1⟩
    rw [← hw1]
    clear hw1
    go_wp2_with fail
    go_ret
    exact ⟨⟨true,rfl,fun _=>.inr ⟨rfl,rfl⟩⟩,Below.refl _ _⟩
  ·have d2:((k:Int) == 1)=false:=by simp;omega
   clear h1 h2
   go_enter Tryz.func74,Tryz.ntmps74
   go_wp2_with fail
   refine (CS.out _).mono ?_
   rintro e w1 ⟨rfl,hw1⟩
   rw [← hw1]
   clear hw1
   go_wp2_with fail
   go_ret
   exact ⟨⟨false,rfl,fun h=>absurd h (by decide)⟩,Below.refl _ _⟩
end Go.Proofs.YtmooaepbdmengaaGreatDoor
