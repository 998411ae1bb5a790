/- Parts of the proof of SniffWritten: SnL, SnA, SnB, SnD. -/
import Derived.Test.YtmooaepbdmengaaGreatDoorProg
import Derived.Test.YtmooaepbdmengaaGreatDoorZ05
import Derived.Test.YtmooaepbdmengaaGreatDoorZ03
import Derived.Test.YtmooaepbdmengaaGreatDoorZ02
import Derived.Shelf.Bytes.SlTrim
import Derived.BigQuiet
import Derived.Shelf.Strings.SlTrimAscii
import Derived.Lib.SlBytesConst
namespace Go.Proofs.YtmooaepbdmengaaGreatDoor
open Go.Shelf
set_option linter.unusedVariables false
set_option linter.unusedSimpArgs false
def trimLays_ren:Go.Shelf.Ren:=⟨fun | 8=>28 | 9=>47 | 11=>48 | 12=>49 | 14=>50 | 16=>68 | 17=>69 | 18=>70 | 20=>89 | n=>n,fun | 22=>23 | 9=>9 | 3=>3 | 4=>4 | 5=>5 | 28=>80 | 27=>79 | 0=>0 | 31=>83 | 33=>105 | 21=>21 | 36=>135 | 37=>61 | 40=>138 | 39=>137 | n=>n,fun | 0=>0 | 1=>1 | n=>n⟩
theorem trimLays:Go.Proofs.SlLaysV.n8 Tryz.prog trimLays_ren:={
 mixed:=by kernel_rfl
 f8:=Tryz.func28.trans (congrArg some (by kernel_rfl))
 f9:=Tryz.func47.trans (congrArg some (by kernel_rfl))
 f11:=Tryz.func48.trans (congrArg some (by kernel_rfl))
 f12:=Tryz.func49.trans (congrArg some (by kernel_rfl))
 f14:=Tryz.func50.trans (congrArg some (by kernel_rfl))
 f16:=Tryz.func68.trans (congrArg some (by kernel_rfl))
 f17:=Tryz.func69.trans (congrArg some (by kernel_rfl))
 f18:=Tryz.func70.trans (congrArg some (by kernel_rfl))
 f20:=Tryz.func89.trans (congrArg some (by kernel_rfl))
 t0:=Tryz.underlying0
 a0:=Tryz.isAgg0
 z0:=Tryz.sizeOf0
 v0:=Tryz.zeroValue0
 t3:=Tryz.underlying3
 a3:=Tryz.isAgg3
 z3:=Tryz.sizeOf3
 v3:=Tryz.zeroValue3
 t4:=Tryz.underlying4
 a4:=Tryz.isAgg4
 z4:=Tryz.sizeOf4
 v4:=Tryz.zeroValue4
 t5:=Tryz.underlying5
 a5:=Tryz.isAgg5
 z5:=Tryz.sizeOf5
 v5:=Tryz.zeroValue5
 t9:=Tryz.underlying9
 a9:=Tryz.isAgg9
 z9:=Tryz.sizeOf9
 v9:=Tryz.zeroValue9
 t21:=Tryz.underlying21
 a21:=Tryz.isAgg21
 z21:=Tryz.sizeOf21
 v21:=Tryz.zeroValue21
 t22:=Tryz.underlying23
 a22:=Tryz.isAgg23
 z22:=Tryz.sizeOf23
 v22:=Tryz.zeroValue23
 t27:=Tryz.underlying79
 a27:=Tryz.isAgg79
 z27:=Tryz.sizeOf79
 t28:=Tryz.underlying80
 a28:=Tryz.isAgg80
 z28:=Tryz.sizeOf80
 v28:=Tryz.zeroValue80
 t31:=Tryz.underlying83
 a31:=Tryz.isAgg83
 z31:=Tryz.sizeOf83
 v31:=Tryz.zeroValue83
 t33:=Tryz.underlying105
 a33:=Tryz.isAgg105
 z33:=Tryz.sizeOf105
 v33:=Tryz.zeroValue105
 t36:=Tryz.underlying135
 a36:=Tryz.isAgg135
 z36:=Tryz.sizeOf135
 t37:=Tryz.underlying61
 a37:=Tryz.isAgg61
 z37:=Tryz.sizeOf61
 v37:=Tryz.zeroValue61
 t39:=Tryz.underlying137
 a39:=Tryz.isAgg137
 z39:=Tryz.sizeOf137
 v39:=Tryz.zeroValue137
 t40:=Tryz.underlying138
 a40:=Tryz.isAgg138
 z40:=Tryz.sizeOf138
 v40:=Tryz.zeroValue138 }
end Go.Proofs.YtmooaepbdmengaaGreatDoor
namespace Go.Proofs.YtmooaepbdmengaaGreatDoor
open Go.RowKit
set_option linter.unusedVariables false
set_option linter.unusedSimpArgs false
def blankZ (x:UInt8):Bool:=[32,9,10,13].contains x
def lead:List UInt8→Nat
 | []=>0
 | x::r=>if blankZ x=true then lead r+1 else 0
theorem lead_le:∀ L:List UInt8,lead L≤L.length
 | []=>Nat.le_refl _
 | x::r=>by have:=lead_le r;simp only [lead,List.length_cons];split<;>omega
theorem trim_lead:∀ L:List UInt8,L.length - (Lib.trimLeftS L [32,9,10,13]).length=lead L
 | []=>rfl
 | x::r=>by
  have h:=trim_lead r
  have hl:=lead_le r
  unfold Lib.trimLeftS at h ⊢
  have hm:(r.dropWhile ([32,9,10,13].contains ·)).length≤r.length:=(List.dropWhile_sublist _).length_le
  by_cases hx:blankZ x=true
  ·have hx':([32,9,10,13].contains x)=true:=hx
   rw [List.dropWhile_cons,if_pos hx']
   simp only [lead,if_pos hx,List.length_cons];omega
  ·have hx':¬ ([32,9,10,13].contains x)=true:=hx
   rw [List.dropWhile_cons,if_neg hx']
   simp only [lead,if_neg hx];omega
theorem blank_iff (x:UInt8):blankZ x=true ↔ (x.toNat=9∨x.toNat=10∨x.toNat=13∨x.toNat=32):=by
 simp only [blankZ,List.contains_cons,List.contains_nil,Bool.or_eq_true,beq_iff_eq,Bool.or_false]
 constructor
 ·rintro (rfl | rfl | rfl | rfl)<;>simp
 ·intro h
  rcases h with h|h|h|h
  ·exact .inr (.inl (UInt8.toNat_inj.1 h))
  ·exact .inr (.inr (.inl (UInt8.toNat_inj.1 h)))
  ·exact .inr (.inr (.inr (UInt8.toNat_inj.1 h)))
  ·exact .inl (UInt8.toNat_inj.1 h)
def brace (L:List UInt8):Bool:=decide (lead L < L.length) && (bAt L (lead L) == 123)
def guessN (L:List UInt8):Nat:=
 if 5≤L.length∧bAt L (L.length - 1)=0∧le (seg L 0 4)=L.length then 1 else if brace L=true then 2 else if L.length=0 then 0 else
 if 160≤bAt L 0∧bAt L 0≤187 then 4 else if (128≤bAt L 0∧bAt L 0≤143)∨bAt L 0=222∨bAt L 0=223 then 5 else 0
theorem i64_or_nat (a b:Nat) (ha:a < 4611686018427387904) (hb:b < 4611686018427387904):bits .or .i64 (a:Int) (b:Int)=((a ||| b:Nat):Int):=by
 have hx:a ||| b < 2 ^ 62:=Nat.or_lt_two_pow (by omega) (by omega)
 show IntKind.i64.wrap ((BitVec.ofInt 64 (a:Int) ||| BitVec.ofInt 64 (b:Int)).toNat:Int)=_
 rw [BitVec.toNat_or,BitVec.ofInt_natCast,BitVec.toNat_ofNat,BitVec.ofInt_natCast,BitVec.toNat_ofNat,Nat.mod_eq_of_lt (by omega),Nat.mod_eq_of_lt (by omega)]
 exact IntWalk.i64_in _ (by omega)
theorem or_four64 (a b c d:Nat) (ha:a < 256) (hb:b < 256) (hc:c < 256) (hd:d < 256) :
  bits BinOp.or IntKind.i64 (bits BinOp.or IntKind.i64 (bits BinOp.or IntKind.i64 (a:Int) ((b:Int) * 256)) ((c:Int) * 65536)) ((d:Int) * 16777216)=((a+256 * (b+256 * (c+256 * d)):Nat):Int):=by
 rw [show (b:Int) * 256=((b * 256:Nat):Int) from by omega,show (c:Int) * 65536=((c * 65536:Nat):Int) from by omega,show (d:Int) * 16777216=((d * 16777216:Nat):Int) from by omega]
 rw [i64_or_nat a (b * 256) (by omega) (by omega),Nat.or_comm,nat_join 8 (b * 256) a (by omega) (by omega)]
 rw [i64_or_nat _ (c * 65536) (by omega) (by omega),Nat.or_comm,nat_join 16 (c * 65536) _ (by omega) (by omega)]
 rw [i64_or_nat _ (d * 16777216) (by omega) (by omega),Nat.or_comm,nat_join 24 (d * 16777216) _ (by omega) (by omega)]
 omega
theorem le_seg4 (l:List UInt8) (p:Nat) (h:p+4≤l.length):le (seg l p 4)=bAt l p+256 * (bAt l (p+1)+256 * (bAt l (p+2)+256 * bAt l (p+3))):=by
 have e0:=le_seg_drop l p 4 0 h (by omega)
 have e1:=le_seg_drop l p 4 1 h (by omega)
 have e2:=le_seg_drop l p 4 2 h (by omega)
 have e3:=le_seg_drop l p 4 3 h (by omega)
 have e4:(seg l p 4).drop 4=[]:=List.drop_of_length_le (by rw [seg_length _ _ _ h];omega)
 simp only [Nat.reduceAdd,List.drop_zero,Nat.add_zero] at e0 e1 e2 e3
 rw [e4] at e3
 simp only [le] at e3
 omega
def TrimV (a:Option Addr) (n cap:Nat) (L:List UInt8):Value:=Lib.leftV a n cap (lead L)
theorem trim_calls (a:Option Addr) (n cap:Nat) (L:List UInt8) (w:World) (h:RdB w a n L) (hc:n≤cap) (hb:cap≤9223372036854775807) :
  Calls Tryz.prog 28 #[.slice a n cap,.string ⟨#[32,9,10,13]⟩] w fun e w'=>e=.returned (TrimV a n cap L)∧Below w.heap.size w w':=by
 have h27:(Tryz.prog.info? (trimLays_ren.t 27)).map (fun i=>(i.zero,i.size))=some (some (.agg (Array.replicate 256 (.bool false))),256):=by kernel_rfl
 have hcon:=Any.bytes_TrimLeft_ascii trimLays (zero_of_info h27).1 (zero_of_info h27).2 a n cap L ⟨#[32,9,10,13]⟩ w h.1 hc hb (fun h0=>?_) (by decide) (ascii_of_all (by decide))
 ·refine Calls.mono hcon fun e w' h2=>⟨?_,h2.2⟩
  rw [h2.1]
  unfold TrimV
  rw [← trim_lead L,h.1]
 ·obtain ⟨b,o,rfl,_⟩:=h.at 0 h0
  refine ⟨b,o,rfl,fun i hi=>?_⟩
  obtain ⟨b2,o2,e,hcell⟩:=h.at i hi
  simp only [Option.some.injEq,Addr.mk.injEq,and_true] at e
  obtain ⟨rfl,rfl⟩:=e
  exact hcell
set_option maxRecDepth 100000 in
set_option maxHeartbeats 1000000 in
theorem equal_calls (a b:Option Addr) (m n c d:Nat) (L K:List UInt8) (w:World) (h:RdB w a m L) (k:RdB w b n K) :
  Calls Tryz.prog 46 #[.slice a m c,.slice b n d] w fun e w'=>e=.returned (.bool ((txt L).toList == (txt K).toList))∧w=w':=by
 have h1:=conv_str h c
 have h2:=conv_str k d
 generalize txt L=S at h1 ⊢
 generalize txt K=T at h2 ⊢
 clear h k
 go_enter Tryz.func46,Tryz.ntmps46
 go_wp2_with fail
 go_ret
 exact ⟨rfl,rfl⟩
theorem one_text (x:UInt8):((txt [x]).toList == (txt [123]).toList)=(x == 123):=by
 have e:∀ y:UInt8,(txt [y]).toList=[y]:=fun y=>by rw [ByteArray.toList_eq];rfl
 rw [e,e]
 simp
set_option maxRecDepth 100000 in
set_option maxHeartbeats 1000000 in
theorem pre_none (b:Option Addr) (d:Nat) (w:World) (k:RdB w b 1 [123]) :
  Calls Tryz.prog 27 #[.slice none 0 0,.slice b 1 d] w fun e w'=>e=.returned (.bool false)∧w=w':=by
 clear k
 go_enter Tryz.func27,Tryz.ntmps27
 go_wp2_with fail
 go_ret
 exact ⟨rfl,rfl⟩
set_option maxRecDepth 100000 in
set_option maxHeartbeats 1000000 in
theorem pre_some (a b:Option Addr) (m c d:Nat) (L:List UInt8) (w:World) (h:RdB w a m L) (hm:1≤m) (hc:m≤c) (k:RdB w b 1 [123]) :
  Calls Tryz.prog 27 #[.slice a m c,.slice b 1 d] w fun e w'=>e=.returned (.bool (L.getD 0 0 == 123))∧w=w':=by
 have ht:RdB w a 1 [L.getD 0 0]:=by
  refine ⟨rfl,by omega,fun i hi=>?_⟩
  obtain rfl:i=0:=by omega
  exact h.2.2 0 (by omega)
 have C:=Lib.hid (equal_calls a b 1 1 c d _ _ w ht k)
 rw [one_text] at C
 have hm0:decide ((1:Int)≤(m:Int))=true:=by simp;omega
 have hm1:decide (1≤m)=true:=by simp;omega
 have hc1:(1:Int)≤(c:Int):=by omega
 generalize (L.getD 0 0 == 123)=B at C ⊢
 clear ht h k
 go_enter Tryz.func27,Tryz.ntmps27
 go_wp2_with fail
 refine C.out.mono ?_
 rintro e w1 ⟨rfl,rfl⟩
 cases B<;>(go_wp2_with fail;go_ret;exact ⟨rfl,rfl⟩)
theorem brace_calls (a b:Option Addr) (n cap d:Nat) (L:List UInt8) (w:World) (h:RdB w a n L) (hc:n≤cap) (k:RdB w b 1 [123]) :
  ∃ x m c,TrimV a n cap L=.slice x m c∧Calls Tryz.prog 27 #[.slice x m c,.slice b 1 d] w fun e w'=>e=.returned (.bool (brace L))∧w=w':=by
 have hl:=lead_le L
 have hL:=h.1
 unfold TrimV Lib.leftV
 by_cases hk:lead L=n
 ·rw [if_pos hk]
  refine ⟨none,0,0,rfl,?_⟩
  have hb:brace L=false:=by unfold brace;rw [decide_eq_false (by omega)];rfl
  rw [hb]
  exact pre_none b d w k
 ·rw [if_neg hk]
  unfold Lib.fromV
  rw [if_neg (by omega)]
  obtain ⟨b0,o0,rfl,-⟩:=h.at 0 (by omega)
  refine ⟨_,_,_,rfl,?_⟩
  have hr:RdB w (some ⟨b0,o0+lead L,none⟩) (n - lead L) (L.drop (lead L)):=by
   refine ⟨by rw [List.length_drop,hL],by have:=h.2.1;omega,fun i hi=>?_⟩
   obtain ⟨b2,o2,e,hcell⟩:=h.at (lead L+i) (by omega)
   simp only [Option.some.injEq,Addr.mk.injEq,and_true] at e
   obtain ⟨rfl,rfl⟩:=e
   refine ⟨_,_,rfl,?_⟩
   rw [show o0+lead L+i=o0+(lead L+i) from by omega,hcell]
   simp [bAt]
  have hd:brace L=((L.drop (lead L)).getD 0 0 == 123):=by
   unfold brace
   rw [decide_eq_true (by omega),Bool.true_and]
   have e:(L.drop (lead L)).getD 0 0=L.getD (lead L) 0:=by simp
   rw [e]
   unfold bAt
   rw [Bool.eq_iff_iff,beq_iff_eq,beq_iff_eq]
   exact ⟨fun h=>UInt8.toNat_inj.1 h,fun h=>by rw [h];rfl⟩
  rw [hd]
  have hr2:RdB w (Option.map (fun x=>x.add (lead L)) (some (⟨b0,o0,none⟩:Addr))) (n - lead L) (L.drop (lead L)):=by
   rw [Option.map_some,add_at];exact hr
  exact pre_some _ b _ _ d _ w hr2 (by omega) (by omega) k
theorem guess_rest {L:List UInt8} (h1:¬ (5≤L.length∧bAt L (L.length - 1)=0∧le (seg L 0 4)=L.length)) (h2:brace L=false) (h3:¬ L.length=0):guessN L=if 160≤bAt L 0∧bAt L 0≤187 then 4 else if (128≤bAt L 0∧bAt L 0≤143)∨bAt L 0=222∨bAt L 0=223 then 5 else 0:=by
 unfold guessN
 rw [if_neg h1,h2,if_neg (by simp),if_neg h3]
set_option maxRecDepth 100000 in
set_option maxHeartbeats 16000000 in
theorem guess_calls (a:Option Addr) (n cap:Nat) (L:List UInt8) (w:World) (h:RdB w a n L) (hc:n≤cap) (hcap:cap≤9223372036854775807) (hn:n≤1000000) :
  Calls Tryz.prog 12 #[.slice a n cap] w fun e w'=>e=.returned (.int .i64 (guessN L:Nat))∧Below w.heap.size w w':=by
 have hL:L.length=n:=h.1
 obtain ⟨R,hR⟩:∃ R,R=guessN L:=⟨_,rfl⟩
 rw [← hR]
 have HT:=Lib.hid (fun W (hW:RdB W a n L)=>trim_calls a n cap L W hW hc hcap)
 have HK:=Lib.hid (fun W (hW:RdB W a n L) b d (k:RdB W b 1 [123])=>brace_calls a b n cap d L W hW hc k)
 have HRD:=Lib.hid h
 obtain ⟨TV,hTV⟩:∃ v,v=TrimV a n cap L:=⟨_,rfl⟩
 obtain ⟨B,hB⟩:∃ v,v=brace L:=⟨_,rfl⟩
 have HTV:=Lib.hid hTV
 have kc:=fun (w:World) (C:Array Value) (n c:Nat)=>Lib.run_convert_bytes_const (P:=Tryz.prog) w 23 5 C n c Tryz.underlying23 Tryz.underlying5
 have HB:=Lib.hid hB
 rw [← hTV] at HT
 have hcase:n < 5∨(5≤n∧¬ bAt L (n - 1)=0)∨(5≤n∧bAt L (n - 1)=0∧¬ le (seg L 0 4)=n)∨(5≤n∧bAt L (n - 1)=0∧le (seg L 0 4)=n):=by omega
 rcases hcase with hh|hh|hh|hh
 ·as_aux_lemma=>
   have HNG:Hid (¬ (5≤L.length∧bAt L (L.length - 1)=0∧le (seg L 0 4)=L.length)):=by show ¬ _;rw [hL];omega
   have g5:decide ((5:Int)≤(n:Int))=false:=by simp;omega
   have g5n:decide (5≤n)=false:=by simp;omega
   clear hTV hB h
   go_enter Tryz.func12,Tryz.ntmps12
   go_wp2_with fail
   go_quiet (fail)
   go_wp2_with fail
   obtain ⟨wb,hwb⟩:∃ W,W=w.drewN nq:=⟨_,rfl⟩
   have hbb:Below w.heap.size w wb:=by rw [hwb];exact below_drewN w nq w.heap.size
   rw [← hwb]
   clear hwb
   refine (HT.out wb (HRD.out.keep hbb)).mono ?_
   rintro e w1 ⟨rfl,hb1⟩
   have HB1:Hid (Below w.heap.size w w1):=hbb.trans (hb1.mono hbb.size)
   clear hb1 hbb HT
   obtain ⟨gb,hgb⟩:∃ g,g=w1.heap.size:=⟨_,rfl⟩
   obtain ⟨w2,hw2⟩:∃ W,W=w1.alloc (.cells #[.int .u8 123] 5 (1,2)):=⟨_,rfl⟩
   have hb2:Below w.heap.size w w2:=by rw [hw2];exact HB1.out.alloc HB1.out.size _
   have hk:RdB w2 (some ⟨gb,0,none⟩) 1 [123]:=by
    refine ⟨rfl,by omega,fun i hi=>⟨gb,0,rfl,?_⟩⟩
    obtain rfl:i=0:=by omega
    rw [hw2,hgb]
    first|(simp [go_sem,bAt];done)|(simp [go_sem,bAt,World.cell?_alloc_mark];done)|(rw [World.cell?_alloc_mark];rfl)
   obtain ⟨tx,tm,tc,htv,hpc⟩:=HK.out w2 (HRD.out.keep hb2) (some ⟨gb,0,none⟩) 1 hk
   rw [← HTV.out] at htv
   rw [← HB.out] at hpc
   have HPC:=Lib.hid hpc
   have HB2:=Lib.hid hb2
   subst htv
   have HW2:=Lib.hid hw2
   have HGB:=Lib.hid hgb
   clear hk hpc hb2 HK hw2 hgb
   go_wp2_with fail
   rw [← HGB.out,← HW2.out]
   refine HPC.out.mono ?_
   rintro e w3 ⟨rfl,rfl⟩
   clear HPC HW2 HGB HB1
   cases B with
   | true=>
    have HF:Hid (R=2):=by show _=_;rw [hR];unfold guessN;rw [if_neg HNG.out,← HB.out,if_pos rfl]
    clear hR
    go_wp2_with fail
    go_ret
    exact ⟨by rw [HF.out];rfl,HB2.out⟩
   | false=>
    have HG:=Lib.hid (guess_rest HNG.out HB.out.symm)
    by_cases h0:n=0
    ·have HF:Hid (R=0):=by show _=_;rw [hR];unfold guessN;rw [if_neg HNG.out,← HB.out,if_neg (by simp),if_pos (by omega)]
     have e0:((n:Int) == 0)=true:=by simp;omega
     clear hR HG h0
     go_wp2_with fail
     go_ret
     exact ⟨by rw [HF.out];rfl,HB2.out⟩
    have e0:((n:Int) == 0)=false:=by simp;omega
    obtain ⟨c,hcc⟩:∃ c,c=bAt L 0:=⟨_,rfl⟩
    have HRR:Hid (R=if 160≤c∧c≤187 then 4 else if (128≤c∧c≤143)∨c=222∨c=223 then 5 else 0):=by show _=_;rw [hR,HG.out (by omega),← hcc]
    obtain ⟨bb,oo,eb,cc⟩:=(HRD.out.keep HB2.out).at 0 (by omega)
    subst eb
    have hc9:=bAt_lt L 0
    rw [← hcc] at cc hc9
    have u0:(0:Int) < (n:Int):=by omega
    have u0n:0 < n:=by omega
    rw [Nat.add_zero] at cc
    have hcs:c < 128∨(128≤c∧c≤143)∨(144≤c∧c≤159)∨(160≤c∧c≤187)∨(188≤c∧c≤221)∨c=222∨c=223∨224≤c:=by omega
    clear hR HG hcc
    rcases hcs with hh2|hh2|hh2|hh2|hh2|hh2|hh2|hh2
    ·have HF:Hid (R=0):=by show _=_;rw [HRR.out,if_neg (by omega),if_neg (by omega)]
     have d160:decide ((160:Int)≤(c:Int))=false:=by simp;omega
     have d160n:decide (160≤c)=false:=by simp;omega
     have d187:decide ((c:Int)≤187)=true:=by simp;omega
     have d187n:decide (c≤187)=true:=by simp;omega
     have d128:decide ((128:Int)≤(c:Int))=false:=by simp;omega
     have d128n:decide (128≤c)=false:=by simp;omega
     have d143:decide ((c:Int)≤143)=true:=by simp;omega
     have d143n:decide (c≤143)=true:=by simp;omega
     have e222:((c:Int) == 222)=false:=by simp;omega
     have e223:((c:Int) == 223)=false:=by simp;omega
     clear HRR hh2 hc9
     go_wp2_with fail
     go_ret
     exact ⟨by rw [HF.out];rfl,HB2.out⟩
    ·have HF:Hid (R=5):=by show _=_;rw [HRR.out,if_neg (by omega),if_pos (by omega)]
     have d160:decide ((160:Int)≤(c:Int))=false:=by simp;omega
     have d160n:decide (160≤c)=false:=by simp;omega
     have d187:decide ((c:Int)≤187)=true:=by simp;omega
     have d187n:decide (c≤187)=true:=by simp;omega
     have d128:decide ((128:Int)≤(c:Int))=true:=by simp;omega
     have d128n:decide (128≤c)=true:=by simp;omega
     have d143:decide ((c:Int)≤143)=true:=by simp;omega
     have d143n:decide (c≤143)=true:=by simp;omega
     have e222:((c:Int) == 222)=false:=by simp;omega
     have e223:((c:Int) == 223)=false:=by simp;omega
     clear HRR hh2 hc9
     go_wp2_with fail
     go_ret
     exact ⟨by rw [HF.out];rfl,HB2.out⟩
    ·have HF:Hid (R=0):=by show _=_;rw [HRR.out,if_neg (by omega),if_neg (by omega)]
     have d160:decide ((160:Int)≤(c:Int))=false:=by simp;omega
     have d160n:decide (160≤c)=false:=by simp;omega
     have d187:decide ((c:Int)≤187)=true:=by simp;omega
     have d187n:decide (c≤187)=true:=by simp;omega
     have d128:decide ((128:Int)≤(c:Int))=true:=by simp;omega
     have d128n:decide (128≤c)=true:=by simp;omega
     have d143:decide ((c:Int)≤143)=false:=by simp;omega
     have d143n:decide (c≤143)=false:=by simp;omega
     have e222:((c:Int) == 222)=false:=by simp;omega
     have e223:((c:Int) == 223)=false:=by simp;omega
     clear HRR hh2 hc9
     go_wp2_with fail
     go_ret
     exact ⟨by rw [HF.out];rfl,HB2.out⟩
    ·have HF:Hid (R=4):=by show _=_;rw [HRR.out,if_pos (by omega)]
     have d160:decide ((160:Int)≤(c:Int))=true:=by simp;omega
     have d160n:decide (160≤c)=true:=by simp;omega
     have d187:decide ((c:Int)≤187)=true:=by simp;omega
     have d187n:decide (c≤187)=true:=by simp;omega
     have d128:decide ((128:Int)≤(c:Int))=true:=by simp;omega
     have d128n:decide (128≤c)=true:=by simp;omega
     have d143:decide ((c:Int)≤143)=false:=by simp;omega
     have d143n:decide (c≤143)=false:=by simp;omega
     have e222:((c:Int) == 222)=false:=by simp;omega
     have e223:((c:Int) == 223)=false:=by simp;omega
     clear HRR hh2 hc9
     go_wp2_with fail
     go_ret
     exact ⟨by rw [HF.out];rfl,HB2.out⟩
    ·have HF:Hid (R=0):=by show _=_;rw [HRR.out,if_neg (by omega),if_neg (by omega)]
     have d160:decide ((160:Int)≤(c:Int))=true:=by simp;omega
     have d160n:decide (160≤c)=true:=by simp;omega
     have d187:decide ((c:Int)≤187)=false:=by simp;omega
     have d187n:decide (c≤187)=false:=by simp;omega
     have d128:decide ((128:Int)≤(c:Int))=true:=by simp;omega
     have d128n:decide (128≤c)=true:=by simp;omega
     have d143:decide ((c:Int)≤143)=false:=by simp;omega
     have d143n:decide (c≤143)=false:=by simp;omega
     have e222:((c:Int) == 222)=false:=by simp;omega
     have e223:((c:Int) == 223)=false:=by simp;omega
     clear HRR hh2 hc9
     go_wp2_with fail
     go_ret
     exact ⟨by rw [HF.out];rfl,HB2.out⟩
    ·have HF:Hid (R=5):=by show _=_;rw [HRR.out,if_neg (by omega),if_pos (by omega)]
     have d160:decide ((160:Int)≤(c:Int))=true:=by simp;omega
     have d160n:decide (160≤c)=true:=by simp;omega
     have d187:decide ((c:Int)≤187)=false:=by simp;omega
     have d187n:decide (c≤187)=false:=by simp;omega
     have d128:decide ((128:Int)≤(c:Int))=true:=by simp;omega
     have d128n:decide (128≤c)=true:=by simp;omega
     have d143:decide ((c:Int)≤143)=false:=by simp;omega
     have d143n:decide (c≤143)=false:=by simp;omega
     have e222:((c:Int) == 222)=true:=by simp;omega
     have e223:((c:Int) == 223)=false:=by simp;omega
     clear HRR hh2 hc9
     go_wp2_with fail
     go_ret
     exact ⟨by rw [HF.out];rfl,HB2.out⟩
    ·have HF:Hid (R=5):=by show _=_;rw [HRR.out,if_neg (by omega),if_pos (by omega)]
     have d160:decide ((160:Int)≤(c:Int))=true:=by simp;omega
     have d160n:decide (160≤c)=true:=by simp;omega
     have d187:decide ((c:Int)≤187)=false:=by simp;omega
     have d187n:decide (c≤187)=false:=by simp;omega
     have d128:decide ((128:Int)≤(c:Int))=true:=by simp;omega
     have d128n:decide (128≤c)=true:=by simp;omega
     have d143:decide ((c:Int)≤143)=false:=by simp;omega
     have d143n:decide (c≤143)=false:=by simp;omega
     have e222:((c:Int) == 222)=false:=by simp;omega
     have e223:((c:Int) == 223)=true:=by simp;omega
     clear HRR hh2 hc9
     go_wp2_with fail
     go_ret
     exact ⟨by rw [HF.out];rfl,HB2.out⟩
    ·have HF:Hid (R=0):=by show _=_;rw [HRR.out,if_neg (by omega),if_neg (by omega)]
     have d160:decide ((160:Int)≤(c:Int))=true:=by simp;omega
     have d160n:decide (160≤c)=true:=by simp;omega
     have d187:decide ((c:Int)≤187)=false:=by simp;omega
     have d187n:decide (c≤187)=false:=by simp;omega
     have d128:decide ((128:Int)≤(c:Int))=true:=by simp;omega
     have d128n:decide (128≤c)=true:=by simp;omega
     have d143:decide ((c:Int)≤143)=false:=by simp;omega
     have d143n:decide (c≤143)=false:=by simp;omega
     have e222:((c:Int) == 222)=false:=by simp;omega
     have e223:((c:Int) == 223)=false:=by simp;omega
     clear HRR hh2 hc9
     go_wp2_with fail
     go_ret
     exact ⟨by rw [HF.out];rfl,HB2.out⟩
 ·as_aux_lemma=>
   have HNG:Hid (¬ (5≤L.length∧bAt L (L.length - 1)=0∧le (seg L 0 4)=L.length)):=by show ¬ _;rw [hL];omega
   have g5:decide ((5:Int)≤(n:Int))=true:=by simp;omega
   have g5n:decide (5≤n)=true:=by simp;omega
   obtain ⟨n1,hn1⟩:∃ x,x=n - 1:=⟨_,rfl⟩
   have w1:IntKind.i64.wrap ((n:Int) - 1)=(n1:Int):=(IntWalk.i64_in _ (by omega)).trans (by omega)
   have i0:(0:Int)≤(n1:Int):=by omega
   have i1:(n1:Int) < (n:Int):=by omega
   rw [← hn1] at hh
   obtain ⟨b0,o0,rfl,cl⟩:=HRD.out.at n1 (by omega)
   have t0:(0:Int) < (n:Int):=by omega
   have t0n:0 < n:=by omega
   have t1n:1 < n:=by omega
   have t2n:2 < n:=by omega
   have t3n:3 < n:=by omega
   have t1:(1:Int) < (n:Int):=by omega
   have t2:(2:Int) < (n:Int):=by omega
   have t3:(3:Int) < (n:Int):=by omega
   obtain ⟨b2,o2,e2,c0⟩:=HRD.out.at 0 (by omega)
   simp only [Option.some.injEq,Addr.mk.injEq,and_true] at e2
   obtain ⟨rfl,rfl⟩:=e2
   have q0:=bAt_lt L 0
   obtain ⟨b2,o2,e2,c1⟩:=HRD.out.at 1 (by omega)
   simp only [Option.some.injEq,Addr.mk.injEq,and_true] at e2
   obtain ⟨rfl,rfl⟩:=e2
   have q1:=bAt_lt L 1
   obtain ⟨b2,o2,e2,c2⟩:=HRD.out.at 2 (by omega)
   simp only [Option.some.injEq,Addr.mk.injEq,and_true] at e2
   obtain ⟨rfl,rfl⟩:=e2
   have q2:=bAt_lt L 2
   obtain ⟨b2,o2,e2,c3⟩:=HRD.out.at 3 (by omega)
   simp only [Option.some.injEq,Addr.mk.injEq,and_true] at e2
   obtain ⟨rfl,rfl⟩:=e2
   have q3:=bAt_lt L 3
   rw [Nat.add_zero] at c0
   obtain ⟨z,hz⟩:∃ z,z=bAt L n1:=⟨_,rfl⟩
   rw [← hz] at cl hh
   have gz:((z:Int) == 0)=false:=by simp;omega
   obtain ⟨x0,hx0⟩:∃ x,x=bAt L 0:=⟨_,rfl⟩
   rw [← hx0] at c0 q0
   obtain ⟨x1,hx1⟩:∃ x,x=bAt L 1:=⟨_,rfl⟩
   rw [← hx1] at c1 q1
   obtain ⟨x2,hx2⟩:∃ x,x=bAt L 2:=⟨_,rfl⟩
   rw [← hx2] at c2 q2
   obtain ⟨x3,hx3⟩:∃ x,x=bAt L 3:=⟨_,rfl⟩
   rw [← hx3] at c3 q3
   have v0:IntKind.i64.wrap (x0:Int)=(x0:Int):=IntWalk.i64_in _ (by omega)
   have v1:IntKind.i64.wrap (x1:Int)=(x1:Int):=IntWalk.i64_in _ (by omega)
   have v2:IntKind.i64.wrap (x2:Int)=(x2:Int):=IntWalk.i64_in _ (by omega)
   have v3:IntKind.i64.wrap (x3:Int)=(x3:Int):=IntWalk.i64_in _ (by omega)
   have s1:IntKind.i64.wrap ((x1:Int) * 256)=(x1:Int) * 256:=IntWalk.i64_in _ (by omega)
   have s2:IntKind.i64.wrap ((x2:Int) * 65536)=(x2:Int) * 65536:=IntWalk.i64_in _ (by omega)
   have s3:IntKind.i64.wrap ((x3:Int) * 16777216)=(x3:Int) * 16777216:=IntWalk.i64_in _ (by omega)
   obtain ⟨V,hV⟩:∃ V,V=x0+256 * (x1+256 * (x2+256 * x3)):=⟨_,rfl⟩
   have hor:=or_four64 x0 x1 x2 x3 q0 q1 q2 q3
   rw [← hV] at hor
   clear hz hx0 hx1 hx2 hx3 hV hn1
   clear hTV hB h
   go_enter Tryz.func12,Tryz.ntmps12
   go_wp2_with fail
   go_quiet (fail)
   go_wp2_with fail
   obtain ⟨wb,hwb⟩:∃ W,W=w.drewN nq:=⟨_,rfl⟩
   have hbb:Below w.heap.size w wb:=by rw [hwb];exact below_drewN w nq w.heap.size
   rw [← hwb]
   clear hwb
   refine (HT.out wb (HRD.out.keep hbb)).mono ?_
   rintro e w1 ⟨rfl,hb1⟩
   have HB1:Hid (Below w.heap.size w w1):=hbb.trans (hb1.mono hbb.size)
   clear hb1 hbb HT
   obtain ⟨gb,hgb⟩:∃ g,g=w1.heap.size:=⟨_,rfl⟩
   obtain ⟨w2,hw2⟩:∃ W,W=w1.alloc (.cells #[.int .u8 123] 5 (1,2)):=⟨_,rfl⟩
   have hb2:Below w.heap.size w w2:=by rw [hw2];exact HB1.out.alloc HB1.out.size _
   have hk:RdB w2 (some ⟨gb,0,none⟩) 1 [123]:=by
    refine ⟨rfl,by omega,fun i hi=>⟨gb,0,rfl,?_⟩⟩
    obtain rfl:i=0:=by omega
    rw [hw2,hgb]
    first|(simp [go_sem,bAt];done)|(simp [go_sem,bAt,World.cell?_alloc_mark];done)|(rw [World.cell?_alloc_mark];rfl)
   obtain ⟨tx,tm,tc,htv,hpc⟩:=HK.out w2 (HRD.out.keep hb2) (some ⟨gb,0,none⟩) 1 hk
   rw [← HTV.out] at htv
   rw [← HB.out] at hpc
   have HPC:=Lib.hid hpc
   have HB2:=Lib.hid hb2
   subst htv
   have HW2:=Lib.hid hw2
   have HGB:=Lib.hid hgb
   clear hk hpc hb2 HK hw2 hgb
   go_wp2_with fail
   rw [← HGB.out,← HW2.out]
   refine HPC.out.mono ?_
   rintro e w3 ⟨rfl,rfl⟩
   clear HPC HW2 HGB HB1
   cases B with
   | true=>
    have HF:Hid (R=2):=by show _=_;rw [hR];unfold guessN;rw [if_neg HNG.out,← HB.out,if_pos rfl]
    clear hR
    go_wp2_with fail
    go_ret
    exact ⟨by rw [HF.out];rfl,HB2.out⟩
   | false=>
    have HG:=Lib.hid (guess_rest HNG.out HB.out.symm)
    have e0:((n:Int) == 0)=false:=by simp;omega
    obtain ⟨c,hcc⟩:∃ c,c=bAt L 0:=⟨_,rfl⟩
    have HRR:Hid (R=if 160≤c∧c≤187 then 4 else if (128≤c∧c≤143)∨c=222∨c=223 then 5 else 0):=by show _=_;rw [hR,HG.out (by omega),← hcc]
    obtain ⟨bb,oo,eb,cc⟩:=(HRD.out.keep HB2.out).at 0 (by omega)
    simp only [Option.some.injEq,Addr.mk.injEq,and_true] at eb
    obtain ⟨rfl,rfl⟩:=eb
    have hc9:=bAt_lt L 0
    rw [← hcc] at cc hc9
    have u0:(0:Int) < (n:Int):=by omega
    have u0n:0 < n:=by omega
    rw [Nat.add_zero] at cc
    have hcs:c < 128∨(128≤c∧c≤143)∨(144≤c∧c≤159)∨(160≤c∧c≤187)∨(188≤c∧c≤221)∨c=222∨c=223∨224≤c:=by omega
    clear hR HG hcc
    rcases hcs with hh2|hh2|hh2|hh2|hh2|hh2|hh2|hh2
    ·have HF:Hid (R=0):=by show _=_;rw [HRR.out,if_neg (by omega),if_neg (by omega)]
     have d160:decide ((160:Int)≤(c:Int))=false:=by simp;omega
     have d160n:decide (160≤c)=false:=by simp;omega
     have d187:decide ((c:Int)≤187)=true:=by simp;omega
     have d187n:decide (c≤187)=true:=by simp;omega
     have d128:decide ((128:Int)≤(c:Int))=false:=by simp;omega
     have d128n:decide (128≤c)=false:=by simp;omega
     have d143:decide ((c:Int)≤143)=true:=by simp;omega
     have d143n:decide (c≤143)=true:=by simp;omega
     have e222:((c:Int) == 222)=false:=by simp;omega
     have e223:((c:Int) == 223)=false:=by simp;omega
     clear HRR hh2 hc9
     go_wp2_with fail
     go_ret
     exact ⟨by rw [HF.out];rfl,HB2.out⟩
    ·have HF:Hid (R=5):=by show _=_;rw [HRR.out,if_neg (by omega),if_pos (by omega)]
     have d160:decide ((160:Int)≤(c:Int))=false:=by simp;omega
     have d160n:decide (160≤c)=false:=by simp;omega
     have d187:decide ((c:Int)≤187)=true:=by simp;omega
     have d187n:decide (c≤187)=true:=by simp;omega
     have d128:decide ((128:Int)≤(c:Int))=true:=by simp;omega
     have d128n:decide (128≤c)=true:=by simp;omega
     have d143:decide ((c:Int)≤143)=true:=by simp;omega
     have d143n:decide (c≤143)=true:=by simp;omega
     have e222:((c:Int) == 222)=false:=by simp;omega
     have e223:((c:Int) == 223)=false:=by simp;omega
     clear HRR hh2 hc9
     go_wp2_with fail
     go_ret
     exact ⟨by rw [HF.out];rfl,HB2.out⟩
    ·have HF:Hid (R=0):=by show _=_;rw [HRR.out,if_neg (by omega),if_neg (by omega)]
     have d160:decide ((160:Int)≤(c:Int))=false:=by simp;omega
     have d160n:decide (160≤c)=false:=by simp;omega
     have d187:decide ((c:Int)≤187)=true:=by simp;omega
     have d187n:decide (c≤187)=true:=by simp;omega
     have d128:decide ((128:Int)≤(c:Int))=true:=by simp;omega
     have d128n:decide (128≤c)=true:=by simp;omega
     have d143:decide ((c:Int)≤143)=false:=by simp;omega
     have d143n:decide (c≤143)=false:=by simp;omega
     have e222:((c:Int) == 222)=false:=by simp;omega
     have e223:((c:Int) == 223)=false:=by simp;omega
     clear HRR hh2 hc9
     go_wp2_with fail
     go_ret
     exact ⟨by rw [HF.out];rfl,HB2.out⟩
    ·have HF:Hid (R=4):=by show _=_;rw [HRR.out,if_pos (by omega)]
     have d160:decide ((160:Int)≤(c:Int))=true:=by simp;omega
     have d160n:decide (160≤c)=true:=by simp;omega
     have d187:decide ((c:Int)≤187)=true:=by simp;omega
     have d187n:decide (c≤187)=true:=by simp;omega
     have d128:decide ((128:Int)≤(c:Int))=true:=by simp;omega
     have d128n:decide (128≤c)=true:=by simp;omega
     have d143:decide ((c:Int)≤143)=false:=by simp;omega
     have d143n:decide (c≤143)=false:=by simp;omega
     have e222:((c:Int) == 222)=false:=by simp;omega
     have e223:((c:Int) == 223)=false:=by simp;omega
     clear HRR hh2 hc9
     go_wp2_with fail
     go_ret
     exact ⟨by rw [HF.out];rfl,HB2.out⟩
    ·have HF:Hid (R=0):=by show _=_;rw [HRR.out,if_neg (by omega),if_neg (by omega)]
     have d160:decide ((160:Int)≤(c:Int))=true:=by simp;omega
     have d160n:decide (160≤c)=true:=by simp;omega
     have d187:decide ((c:Int)≤187)=false:=by simp;omega
     have d187n:decide (c≤187)=false:=by simp;omega
     have d128:decide ((128:Int)≤(c:Int))=true:=by simp;omega
     have d128n:decide (128≤c)=true:=by simp;omega
     have d143:decide ((c:Int)≤143)=false:=by simp;omega
     have d143n:decide (c≤143)=false:=by simp;omega
     have e222:((c:Int) == 222)=false:=by simp;omega
     have e223:((c:Int) == 223)=false:=by simp;omega
     clear HRR hh2 hc9
     go_wp2_with fail
     go_ret
     exact ⟨by rw [HF.out];rfl,HB2.out⟩
    ·have HF:Hid (R=5):=by show _=_;rw [HRR.out,if_neg (by omega),if_pos (by omega)]
     have d160:decide ((160:Int)≤(c:Int))=true:=by simp;omega
     have d160n:decide (160≤c)=true:=by simp;omega
     have d187:decide ((c:Int)≤187)=false:=by simp;omega
     have d187n:decide (c≤187)=false:=by simp;omega
     have d128:decide ((128:Int)≤(c:Int))=true:=by simp;omega
     have d128n:decide (128≤c)=true:=by simp;omega
     have d143:decide ((c:Int)≤143)=false:=by simp;omega
     have d143n:decide (c≤143)=false:=by simp;omega
     have e222:((c:Int) == 222)=true:=by simp;omega
     have e223:((c:Int) == 223)=false:=by simp;omega
     clear HRR hh2 hc9
     go_wp2_with fail
     go_ret
     exact ⟨by rw [HF.out];rfl,HB2.out⟩
    ·have HF:Hid (R=5):=by show _=_;rw [HRR.out,if_neg (by omega),if_pos (by omega)]
     have d160:decide ((160:Int)≤(c:Int))=true:=by simp;omega
     have d160n:decide (160≤c)=true:=by simp;omega
     have d187:decide ((c:Int)≤187)=false:=by simp;omega
     have d187n:decide (c≤187)=false:=by simp;omega
     have d128:decide ((128:Int)≤(c:Int))=true:=by simp;omega
     have d128n:decide (128≤c)=true:=by simp;omega
     have d143:decide ((c:Int)≤143)=false:=by simp;omega
     have d143n:decide (c≤143)=false:=by simp;omega
     have e222:((c:Int) == 222)=false:=by simp;omega
     have e223:((c:Int) == 223)=true:=by simp;omega
     clear HRR hh2 hc9
     go_wp2_with fail
     go_ret
     exact ⟨by rw [HF.out];rfl,HB2.out⟩
    ·have HF:Hid (R=0):=by show _=_;rw [HRR.out,if_neg (by omega),if_neg (by omega)]
     have d160:decide ((160:Int)≤(c:Int))=true:=by simp;omega
     have d160n:decide (160≤c)=true:=by simp;omega
     have d187:decide ((c:Int)≤187)=false:=by simp;omega
     have d187n:decide (c≤187)=false:=by simp;omega
     have d128:decide ((128:Int)≤(c:Int))=true:=by simp;omega
     have d128n:decide (128≤c)=true:=by simp;omega
     have d143:decide ((c:Int)≤143)=false:=by simp;omega
     have d143n:decide (c≤143)=false:=by simp;omega
     have e222:((c:Int) == 222)=false:=by simp;omega
     have e223:((c:Int) == 223)=false:=by simp;omega
     clear HRR hh2 hc9
     go_wp2_with fail
     go_ret
     exact ⟨by rw [HF.out];rfl,HB2.out⟩
 ·as_aux_lemma=>
   have HNG:Hid (¬ (5≤L.length∧bAt L (L.length - 1)=0∧le (seg L 0 4)=L.length)):=by show ¬ _;rw [hL];omega
   have g5:decide ((5:Int)≤(n:Int))=true:=by simp;omega
   have g5n:decide (5≤n)=true:=by simp;omega
   obtain ⟨n1,hn1⟩:∃ x,x=n - 1:=⟨_,rfl⟩
   have w1:IntKind.i64.wrap ((n:Int) - 1)=(n1:Int):=(IntWalk.i64_in _ (by omega)).trans (by omega)
   have i0:(0:Int)≤(n1:Int):=by omega
   have i1:(n1:Int) < (n:Int):=by omega
   rw [← hn1] at hh
   obtain ⟨b0,o0,rfl,cl⟩:=HRD.out.at n1 (by omega)
   have t0:(0:Int) < (n:Int):=by omega
   have t0n:0 < n:=by omega
   have t1n:1 < n:=by omega
   have t2n:2 < n:=by omega
   have t3n:3 < n:=by omega
   have t1:(1:Int) < (n:Int):=by omega
   have t2:(2:Int) < (n:Int):=by omega
   have t3:(3:Int) < (n:Int):=by omega
   obtain ⟨b2,o2,e2,c0⟩:=HRD.out.at 0 (by omega)
   simp only [Option.some.injEq,Addr.mk.injEq,and_true] at e2
   obtain ⟨rfl,rfl⟩:=e2
   have q0:=bAt_lt L 0
   obtain ⟨b2,o2,e2,c1⟩:=HRD.out.at 1 (by omega)
   simp only [Option.some.injEq,Addr.mk.injEq,and_true] at e2
   obtain ⟨rfl,rfl⟩:=e2
   have q1:=bAt_lt L 1
   obtain ⟨b2,o2,e2,c2⟩:=HRD.out.at 2 (by omega)
   simp only [Option.some.injEq,Addr.mk.injEq,and_true] at e2
   obtain ⟨rfl,rfl⟩:=e2
   have q2:=bAt_lt L 2
   obtain ⟨b2,o2,e2,c3⟩:=HRD.out.at 3 (by omega)
   simp only [Option.some.injEq,Addr.mk.injEq,and_true] at e2
   obtain ⟨rfl,rfl⟩:=e2
   have q3:=bAt_lt L 3
   rw [Nat.add_zero] at c0
   obtain ⟨z,hz⟩:∃ z,z=bAt L n1:=⟨_,rfl⟩
   rw [← hz] at cl hh
   have gz:((z:Int) == 0)=true:=by simp;omega
   have hle:=le_seg4 L 0 (by omega)
   simp only [Nat.zero_add] at hle
   rw [hle] at hh
   obtain ⟨x0,hx0⟩:∃ x,x=bAt L 0:=⟨_,rfl⟩
   rw [← hx0] at c0 q0 hh
   obtain ⟨x1,hx1⟩:∃ x,x=bAt L 1:=⟨_,rfl⟩
   rw [← hx1] at c1 q1 hh
   obtain ⟨x2,hx2⟩:∃ x,x=bAt L 2:=⟨_,rfl⟩
   rw [← hx2] at c2 q2 hh
   obtain ⟨x3,hx3⟩:∃ x,x=bAt L 3:=⟨_,rfl⟩
   rw [← hx3] at c3 q3 hh
   have v0:IntKind.i64.wrap (x0:Int)=(x0:Int):=IntWalk.i64_in _ (by omega)
   have v1:IntKind.i64.wrap (x1:Int)=(x1:Int):=IntWalk.i64_in _ (by omega)
   have v2:IntKind.i64.wrap (x2:Int)=(x2:Int):=IntWalk.i64_in _ (by omega)
   have v3:IntKind.i64.wrap (x3:Int)=(x3:Int):=IntWalk.i64_in _ (by omega)
   have s1:IntKind.i64.wrap ((x1:Int) * 256)=(x1:Int) * 256:=IntWalk.i64_in _ (by omega)
   have s2:IntKind.i64.wrap ((x2:Int) * 65536)=(x2:Int) * 65536:=IntWalk.i64_in _ (by omega)
   have s3:IntKind.i64.wrap ((x3:Int) * 16777216)=(x3:Int) * 16777216:=IntWalk.i64_in _ (by omega)
   obtain ⟨V,hV⟩:∃ V,V=x0+256 * (x1+256 * (x2+256 * x3)):=⟨_,rfl⟩
   have hor:=or_four64 x0 x1 x2 x3 q0 q1 q2 q3
   rw [← hV] at hor
   rw [← hV] at hh
   have gV:((V:Int) == (n:Int))=false:=by simp;omega
   clear hz hx0 hx1 hx2 hx3 hV hn1 hle
   clear hTV hB h
   go_enter Tryz.func12,Tryz.ntmps12
   go_wp2_with fail
   go_quiet (fail)
   go_wp2_with fail
   obtain ⟨wb,hwb⟩:∃ W,W=w.drewN nq:=⟨_,rfl⟩
   have hbb:Below w.heap.size w wb:=by rw [hwb];exact below_drewN w nq w.heap.size
   rw [← hwb]
   clear hwb
   refine (HT.out wb (HRD.out.keep hbb)).mono ?_
   rintro e w1 ⟨rfl,hb1⟩
   have HB1:Hid (Below w.heap.size w w1):=hbb.trans (hb1.mono hbb.size)
   clear hb1 hbb HT
   obtain ⟨gb,hgb⟩:∃ g,g=w1.heap.size:=⟨_,rfl⟩
   obtain ⟨w2,hw2⟩:∃ W,W=w1.alloc (.cells #[.int .u8 123] 5 (1,2)):=⟨_,rfl⟩
   have hb2:Below w.heap.size w w2:=by rw [hw2];exact HB1.out.alloc HB1.out.size _
   have hk:RdB w2 (some ⟨gb,0,none⟩) 1 [123]:=by
    refine ⟨rfl,by omega,fun i hi=>⟨gb,0,rfl,?_⟩⟩
    obtain rfl:i=0:=by omega
    rw [hw2,hgb]
    first|(simp [go_sem,bAt];done)|(simp [go_sem,bAt,World.cell?_alloc_mark];done)|(rw [World.cell?_alloc_mark];rfl)
   obtain ⟨tx,tm,tc,htv,hpc⟩:=HK.out w2 (HRD.out.keep hb2) (some ⟨gb,0,none⟩) 1 hk
   rw [← HTV.out] at htv
   rw [← HB.out] at hpc
   have HPC:=Lib.hid hpc
   have HB2:=Lib.hid hb2
   subst htv
   have HW2:=Lib.hid hw2
   have HGB:=Lib.hid hgb
   clear hk hpc hb2 HK hw2 hgb
   go_wp2_with fail
   rw [← HGB.out,← HW2.out]
   refine HPC.out.mono ?_
   rintro e w3 ⟨rfl,rfl⟩
   clear HPC HW2 HGB HB1
   cases B with
   | true=>
    have HF:Hid (R=2):=by show _=_;rw [hR];unfold guessN;rw [if_neg HNG.out,← HB.out,if_pos rfl]
    clear hR
    go_wp2_with fail
    go_ret
    exact ⟨by rw [HF.out];rfl,HB2.out⟩
   | false=>
    have HG:=Lib.hid (guess_rest HNG.out HB.out.symm)
    have e0:((n:Int) == 0)=false:=by simp;omega
    obtain ⟨c,hcc⟩:∃ c,c=bAt L 0:=⟨_,rfl⟩
    have HRR:Hid (R=if 160≤c∧c≤187 then 4 else if (128≤c∧c≤143)∨c=222∨c=223 then 5 else 0):=by show _=_;rw [hR,HG.out (by omega),← hcc]
    obtain ⟨bb,oo,eb,cc⟩:=(HRD.out.keep HB2.out).at 0 (by omega)
    simp only [Option.some.injEq,Addr.mk.injEq,and_true] at eb
    obtain ⟨rfl,rfl⟩:=eb
    have hc9:=bAt_lt L 0
    rw [← hcc] at cc hc9
    have u0:(0:Int) < (n:Int):=by omega
    have u0n:0 < n:=by omega
    rw [Nat.add_zero] at cc
    have hcs:c < 128∨(128≤c∧c≤143)∨(144≤c∧c≤159)∨(160≤c∧c≤187)∨(188≤c∧c≤221)∨c=222∨c=223∨224≤c:=by omega
    clear hR HG hcc
    rcases hcs with hh2|hh2|hh2|hh2|hh2|hh2|hh2|hh2
    ·have HF:Hid (R=0):=by show _=_;rw [HRR.out,if_neg (by omega),if_neg (by omega)]
     have d160:decide ((160:Int)≤(c:Int))=false:=by simp;omega
     have d160n:decide (160≤c)=false:=by simp;omega
     have d187:decide ((c:Int)≤187)=true:=by simp;omega
     have d187n:decide (c≤187)=true:=by simp;omega
     have d128:decide ((128:Int)≤(c:Int))=false:=by simp;omega
     have d128n:decide (128≤c)=false:=by simp;omega
     have d143:decide ((c:Int)≤143)=true:=by simp;omega
     have d143n:decide (c≤143)=true:=by simp;omega
     have e222:((c:Int) == 222)=false:=by simp;omega
     have e223:((c:Int) == 223)=false:=by simp;omega
     clear HRR hh2 hc9
     go_wp2_with fail
     go_ret
     exact ⟨by rw [HF.out];rfl,HB2.out⟩
    ·have HF:Hid (R=5):=by show _=_;rw [HRR.out,if_neg (by omega),if_pos (by omega)]
     have d160:decide ((160:Int)≤(c:Int))=false:=by simp;omega
     have d160n:decide (160≤c)=false:=by simp;omega
     have d187:decide ((c:Int)≤187)=true:=by simp;omega
     have d187n:decide (c≤187)=true:=by simp;omega
     have d128:decide ((128:Int)≤(c:Int))=true:=by simp;omega
     have d128n:decide (128≤c)=true:=by simp;omega
     have d143:decide ((c:Int)≤143)=true:=by simp;omega
     have d143n:decide (c≤143)=true:=by simp;omega
     have e222:((c:Int) == 222)=false:=by simp;omega
     have e223:((c:Int) == 223)=false:=by simp;omega
     clear HRR hh2 hc9
     go_wp2_with fail
     go_ret
     exact ⟨by rw [HF.out];rfl,HB2.out⟩
    ·have HF:Hid (R=0):=by show _=_;rw [HRR.out,if_neg (by omega),if_neg (by omega)]
     have d160:decide ((160:Int)≤(c:Int))=false:=by simp;omega
     have d160n:decide (160≤c)=false:=by simp;omega
     have d187:decide ((c:Int)≤187)=true:=by simp;omega
     have d187n:decide (c≤187)=true:=by simp;omega
     have d128:decide ((128:Int)≤(c:Int))=true:=by simp;omega
     have d128n:decide (128≤c)=true:=by simp;omega
     have d143:decide ((c:Int)≤143)=false:=by simp;omega
     have d143n:decide (c≤143)=false:=by simp;omega
     have e222:((c:Int) == 222)=false:=by simp;omega
     have e223:((c:Int) == 223)=false:=by simp;omega
     clear HRR hh2 hc9
     go_wp2_with fail
     go_ret
     exact ⟨by rw [HF.out];rfl,HB2.out⟩
    ·have HF:Hid (R=4):=by show _=_;rw [HRR.out,if_pos (by omega)]
     have d160:decide ((160:Int)≤(c:Int))=true:=by simp;omega
     have d160n:decide (160≤c)=true:=by simp;omega
     have d187:decide ((c:Int)≤187)=true:=by simp;omega
     have d187n:decide (c≤187)=true:=by simp;omega
     have d128:decide ((128:Int)≤(c:Int))=true:=by simp;omega
     have d128n:decide (128≤c)=true:=by simp;omega
     have d143:decide ((c:Int)≤143)=false:=by simp;omega
     have d143n:decide (c≤143)=false:=by simp;omega
     have e222:((c:Int) == 222)=false:=by simp;omega
     have e223:((c:Int) == 223)=false:=by simp;omega
     clear HRR hh2 hc9
     go_wp2_with fail
     go_ret
     exact ⟨by rw [HF.out];rfl,HB2.out⟩
    ·have HF:Hid (R=0):=by show _=_;rw [HRR.out,if_neg (by omega),if_neg (by omega)]
     have d160:decide ((160:Int)≤(c:Int))=true:=by simp;omega
     have d160n:decide (160≤c)=true:=by simp;omega
     have d187:decide ((c:Int)≤187)=false:=by simp;omega
     have d187n:decide (c≤187)=false:=by simp;omega
     have d128:decide ((128:Int)≤(c:Int))=true:=by simp;omega
     have d128n:decide (128≤c)=true:=by simp;omega
     have d143:decide ((c:Int)≤143)=false:=by simp;omega
     have d143n:decide (c≤143)=false:=by simp;omega
     have e222:((c:Int) == 222)=false:=by simp;omega
     have e223:((c:Int) == 223)=false:=by simp;omega
     clear HRR hh2 hc9
     go_wp2_with fail
     go_ret
     exact ⟨by rw [HF.out];rfl,HB2.out⟩
    ·have HF:Hid (R=5):=by show _=_;rw [HRR.out,if_neg (by omega),if_pos (by omega)]
     have d160:decide ((160:Int)≤(c:Int))=true:=by simp;omega
     have d160n:decide (160≤c)=true:=by simp;omega
     have d187:decide ((c:Int)≤187)=false:=by simp;omega
     have d187n:decide (c≤187)=false:=by simp;omega
     have d128:decide ((128:Int)≤(c:Int))=true:=by simp;omega
     have d128n:decide (128≤c)=true:=by simp;omega
     have d143:decide ((c:Int)≤143)=false:=by simp;omega
     have d143n:decide (c≤143)=false:=by simp;omega
     have e222:((c:Int) == 222)=true:=by simp;omega
     have e223:((c:Int) == 223)=false:=by simp;omega
     clear HRR hh2 hc9
     go_wp2_with fail
     go_ret
     exact ⟨by rw [HF.out];rfl,HB2.out⟩
    ·have HF:Hid (R=5):=by show _=_;rw [HRR.out,if_neg (by omega),if_pos (by omega)]
     have d160:decide ((160:Int)≤(c:Int))=true:=by simp;omega
     have d160n:decide (160≤c)=true:=by simp;omega
     have d187:decide ((c:Int)≤187)=false:=by simp;omega
     have d187n:decide (c≤187)=false:=by simp;omega
     have d128:decide ((128:Int)≤(c:Int))=true:=by simp;omega
     have d128n:decide (128≤c)=true:=by simp;omega
     have d143:decide ((c:Int)≤143)=false:=by simp;omega
     have d143n:decide (c≤143)=false:=by simp;omega
     have e222:((c:Int) == 222)=false:=by simp;omega
     have e223:((c:Int) == 223)=true:=by simp;omega
     clear HRR hh2 hc9
     go_wp2_with fail
     go_ret
     exact ⟨by rw [HF.out];rfl,HB2.out⟩
    ·have HF:Hid (R=0):=by show _=_;rw [HRR.out,if_neg (by omega),if_neg (by omega)]
     have d160:decide ((160:Int)≤(c:Int))=true:=by simp;omega
     have d160n:decide (160≤c)=true:=by simp;omega
     have d187:decide ((c:Int)≤187)=false:=by simp;omega
     have d187n:decide (c≤187)=false:=by simp;omega
     have d128:decide ((128:Int)≤(c:Int))=true:=by simp;omega
     have d128n:decide (128≤c)=true:=by simp;omega
     have d143:decide ((c:Int)≤143)=false:=by simp;omega
     have d143n:decide (c≤143)=false:=by simp;omega
     have e222:((c:Int) == 222)=false:=by simp;omega
     have e223:((c:Int) == 223)=false:=by simp;omega
     clear HRR hh2 hc9
     go_wp2_with fail
     go_ret
     exact ⟨by rw [HF.out];rfl,HB2.out⟩
 ·as_aux_lemma=>
   have g5:decide ((5:Int)≤(n:Int))=true:=by simp;omega
   have g5n:decide (5≤n)=true:=by simp;omega
   obtain ⟨n1,hn1⟩:∃ x,x=n - 1:=⟨_,rfl⟩
   have w1:IntKind.i64.wrap ((n:Int) - 1)=(n1:Int):=(IntWalk.i64_in _ (by omega)).trans (by omega)
   have i0:(0:Int)≤(n1:Int):=by omega
   have i1:(n1:Int) < (n:Int):=by omega
   rw [← hn1] at hh
   obtain ⟨b0,o0,rfl,cl⟩:=HRD.out.at n1 (by omega)
   have t0:(0:Int) < (n:Int):=by omega
   have t0n:0 < n:=by omega
   have t1n:1 < n:=by omega
   have t2n:2 < n:=by omega
   have t3n:3 < n:=by omega
   have t1:(1:Int) < (n:Int):=by omega
   have t2:(2:Int) < (n:Int):=by omega
   have t3:(3:Int) < (n:Int):=by omega
   obtain ⟨b2,o2,e2,c0⟩:=HRD.out.at 0 (by omega)
   simp only [Option.some.injEq,Addr.mk.injEq,and_true] at e2
   obtain ⟨rfl,rfl⟩:=e2
   have q0:=bAt_lt L 0
   obtain ⟨b2,o2,e2,c1⟩:=HRD.out.at 1 (by omega)
   simp only [Option.some.injEq,Addr.mk.injEq,and_true] at e2
   obtain ⟨rfl,rfl⟩:=e2
   have q1:=bAt_lt L 1
   obtain ⟨b2,o2,e2,c2⟩:=HRD.out.at 2 (by omega)
   simp only [Option.some.injEq,Addr.mk.injEq,and_true] at e2
   obtain ⟨rfl,rfl⟩:=e2
   have q2:=bAt_lt L 2
   obtain ⟨b2,o2,e2,c3⟩:=HRD.out.at 3 (by omega)
   simp only [Option.some.injEq,Addr.mk.injEq,and_true] at e2
   obtain ⟨rfl,rfl⟩:=e2
   have q3:=bAt_lt L 3
   rw [Nat.add_zero] at c0
   obtain ⟨z,hz⟩:∃ z,z=bAt L n1:=⟨_,rfl⟩
   rw [← hz] at cl hh
   have gz:((z:Int) == 0)=true:=by simp;omega
   have hle:=le_seg4 L 0 (by omega)
   simp only [Nat.zero_add] at hle
   rw [hle] at hh
   obtain ⟨x0,hx0⟩:∃ x,x=bAt L 0:=⟨_,rfl⟩
   rw [← hx0] at c0 q0 hh
   obtain ⟨x1,hx1⟩:∃ x,x=bAt L 1:=⟨_,rfl⟩
   rw [← hx1] at c1 q1 hh
   obtain ⟨x2,hx2⟩:∃ x,x=bAt L 2:=⟨_,rfl⟩
   rw [← hx2] at c2 q2 hh
   obtain ⟨x3,hx3⟩:∃ x,x=bAt L 3:=⟨_,rfl⟩
   rw [← hx3] at c3 q3 hh
   have v0:IntKind.i64.wrap (x0:Int)=(x0:Int):=IntWalk.i64_in _ (by omega)
   have v1:IntKind.i64.wrap (x1:Int)=(x1:Int):=IntWalk.i64_in _ (by omega)
   have v2:IntKind.i64.wrap (x2:Int)=(x2:Int):=IntWalk.i64_in _ (by omega)
   have v3:IntKind.i64.wrap (x3:Int)=(x3:Int):=IntWalk.i64_in _ (by omega)
   have s1:IntKind.i64.wrap ((x1:Int) * 256)=(x1:Int) * 256:=IntWalk.i64_in _ (by omega)
   have s2:IntKind.i64.wrap ((x2:Int) * 65536)=(x2:Int) * 65536:=IntWalk.i64_in _ (by omega)
   have s3:IntKind.i64.wrap ((x3:Int) * 16777216)=(x3:Int) * 16777216:=IntWalk.i64_in _ (by omega)
   obtain ⟨V,hV⟩:∃ V,V=x0+256 * (x1+256 * (x2+256 * x3)):=⟨_,rfl⟩
   have hor:=or_four64 x0 x1 x2 x3 q0 q1 q2 q3
   rw [← hV] at hor
   rw [← hV] at hh
   have gV:((V:Int) == (n:Int))=true:=by simp;omega
   have HF:Hid (R=1):=by show _=_;rw [hR];unfold guessN;rw [if_pos (by rw [hL,← hn1,← hz,hle,← hx0,← hx1,← hx2,← hx3,← hV];omega)]
   clear hz hx0 hx1 hx2 hx3 hV hn1 hle
   clear hTV hB h hR
   go_enter Tryz.func12,Tryz.ntmps12
   go_wp2_with fail
   go_quiet (fail)
   go_wp2_with fail
   go_ret
   exact ⟨by rw [HF.out];rfl,below_drewN w nq w.heap.size⟩
def nameN (k:Int):ByteArray:=if k=1 then ⟨#[98,115,111,110]⟩ else if k=2 then ⟨#[99,97,110,111,110,105,99,97,108]⟩ else if k=3 then ⟨#[114,101,108,97,120,101,100]⟩ else if k=4 then ⟨#[99,98,111,114]⟩ else if k=5 then ⟨#[109,115,103,112,97,99,107]⟩ else ⟨#[]⟩
set_option maxRecDepth 100000 in
set_option maxHeartbeats 4000000 in
theorem name_calls (k:Int) (w:World):Calls Tryz.prog 13 #[.int .i64 k] w fun e w'=>e=.returned (.string (nameN k))∧w=w':=by
 by_cases h1:k=1
 ·subst h1
  go_enter Tryz.func13,Tryz.ntmps13
  go_wp2_with fail
  go_ret
  exact ⟨rfl,rfl⟩
 by_cases h2:k=2
 ·subst h2
  go_enter Tryz.func13,Tryz.ntmps13
  go_wp2_with fail
  go_ret
  exact ⟨rfl,rfl⟩
 by_cases h3:k=3
 ·subst h3
  go_enter Tryz.func13,Tryz.ntmps13
  go_wp2_with fail
  go_ret
  exact ⟨rfl,rfl⟩
 by_cases h4:k=4
 ·subst h4
  go_enter Tryz.func13,Tryz.ntmps13
  go_wp2_with fail
  go_ret
  exact ⟨rfl,rfl⟩
 by_cases h5:k=5
 ·subst h5
  go_enter Tryz.func13,Tryz.ntmps13
  go_wp2_with fail
  go_ret
  exact ⟨rfl,rfl⟩
 have HN:Hid (nameN k=⟨#[]⟩):=by show _=_;unfold nameN;rw [if_neg h1,if_neg h2,if_neg h3,if_neg h4,if_neg h5]
 have b1:(k == 1)=false:=by simpa using h1
 have b2:(k == 2)=false:=by simpa using h2
 have b3:(k == 3)=false:=by simpa using h3
 have b4:(k == 4)=false:=by simpa using h4
 have b5:(k == 5)=false:=by simpa using h5
 clear h1 h2 h3 h4 h5
 go_enter Tryz.func13,Tryz.ntmps13
 go_wp2_with fail
 go_ret
 exact ⟨by rw [HN.out];rfl,rfl⟩
def formN (s:ByteArray):Nat:=if nameN 1=s then 1 else if nameN 2=s then 2 else if nameN 3=s then 3 else if nameN 4=s then 4 else if nameN 5=s then 5 else 0
theorem form_none (s:ByteArray) (h:∀ i:Nat,1≤i→i≤5→¬ nameN i=s):formN s=0:=by
 have h1:¬ nameN 1=s:=h 1 (by omega) (by omega)
 have h2:¬ nameN 2=s:=h 2 (by omega) (by omega)
 have h3:¬ nameN 3=s:=h 3 (by omega) (by omega)
 have h4:¬ nameN 4=s:=h 4 (by omega) (by omega)
 have h5:¬ nameN 5=s:=h 5 (by omega) (by omega)
 unfold formN
 rw [if_neg h1,if_neg h2,if_neg h3,if_neg h4,if_neg h5]
theorem rd_new {w:World} {g n:Nat} {l:List UInt8} {t:TypeId} {fr:Nat × Nat} {C:Array Value} (hg:g=w.heap.size) (hn:l.length=n) (hm:n≤1000000) (hC:∀ i,i < n→C[i]?=some (.int .u8 (bAt l i:Nat))):RdB (w.alloc (.cells C t fr)) (some ⟨g,0,none⟩) n l:=by
 refine ⟨hn,by omega,fun i hi=>⟨g,0,rfl,?_⟩⟩
 rw [hg,Nat.zero_add,World.cell?_alloc_mark]
 exact hC i hi
set_option maxRecDepth 100000 in
set_option maxHeartbeats 8000000 in
theorem awake32 (w:World):Calls Tryz.prog 4 #[] w fun e w'=>e=.returned (.bool true)∧Below w.heap.size w w':=by
 have kc:=fun (w:World) (C:Array Value) (n c:Nat)=>Lib.run_convert_bytes_const (P:=Tryz.prog) w 23 5 C n c Tryz.underlying23 Tryz.underlying5
 have C1:Hid (∀ W,RdB W (some ⟨w.heap.size,0,none⟩) 5 [5,0,0,0,0]→Calls Tryz.prog 12 #[.slice (some ⟨w.heap.size,0,none⟩) 5 5] W fun e w'=>e=.returned (.int .i64 1)∧Below W.heap.size W w'):=Lib.hid (fun W hW=>guess_calls _ 5 5 [5,0,0,0,0] W hW (by omega) (by omega) (by omega))
 have C2:Hid (∀ W g,RdB W (some ⟨g,0,none⟩) 2 [32,123]→Calls Tryz.prog 12 #[.slice (some ⟨g,0,none⟩) 2 2] W fun e w'=>e=.returned (.int .i64 2)∧Below W.heap.size W w'):=Lib.hid (fun W g hW=>guess_calls _ 2 2 [32,123] W hW (by omega) (by omega) (by omega))
 have CN:=Lib.hid (name_calls 5)
 have hnm:((nameN 5).toList == [109,115,103,112,97,99,107])=true:=by rw [ByteArray.toList_eq];decide
 generalize nameN 5=nm at CN hnm
 have hr1:RdB (w.alloc (.cells #[.int .u8 5,.int .u8 0,.int .u8 0,.int .u8 0,.int .u8 0] 5)) (some ⟨w.heap.size,0,none⟩) 5 [5,0,0,0,0]:=rd_new rfl rfl (by omega) (fun i hi=>by
  have:i=0∨i=1∨i=2∨i=3∨i=4:=by omega
  rcases this with rfl|rfl|rfl|rfl|rfl<;>rfl)
 have HR1:=Lib.hid hr1
 clear hr1
 go_enter Tryz.func4,Tryz.ntmps4
 go_wp2_with fail
 refine (C1.out _ HR1.out).mono ?_
 rintro e w1 ⟨rfl,hb1⟩
 have HB1:Hid (Below w.heap.size w w1):=((Below.refl w.heap.size w).alloc (Nat.le_refl _) _).trans (hb1.mono (by simp))
 clear hb1
 obtain ⟨gb,hgb⟩:∃ g,g=w1.heap.size:=⟨_,rfl⟩
 have HGB:=Lib.hid hgb
 have hr2:RdB (w1.alloc (.cells #[.int .u8 32,.int .u8 123] 5 (2,3))) (some ⟨gb,0,none⟩) 2 [32,123]:=rd_new hgb rfl (by omega) (fun i hi=>by
  have:i=0∨i=1:=by omega
  rcases this with rfl|rfl<;>rfl)
 obtain ⟨w2,hw2⟩:∃ W,W=w1.alloc (.cells #[.int .u8 32,.int .u8 123] 5 (2,3)):=⟨_,rfl⟩
 rw [← hw2] at hr2
 have HR2:=Lib.hid hr2
 have HB2:Hid (Below w.heap.size w w2):=by show Below _ _ _;rw [hw2];exact HB1.out.alloc HB1.out.size _
 have HW2:=Lib.hid hw2
 clear hr2 hw2 hgb
 go_wp2_with fail
 rw [← HGB.out,← HW2.out]
 refine (C2.out _ gb HR2.out).mono ?_
 rintro e w3 ⟨rfl,hb3⟩
 have HB3:Hid (Below w.heap.size w w3):=HB2.out.trans (hb3.mono HB2.out.size)
 clear hb3
 go_wp2_with fail
 refine (CN.out _).mono ?_
 rintro e w4 ⟨rfl,rfl⟩
 go_wp2_with fail
 go_ret
 exact ⟨rfl,HB3.out⟩
end Go.Proofs.YtmooaepbdmengaaGreatDoor
