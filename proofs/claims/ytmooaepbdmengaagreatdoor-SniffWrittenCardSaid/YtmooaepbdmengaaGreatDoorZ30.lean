/- Parts of the proof of SniffWritten: SwH, SwI, SwE, SwY, SwF. -/
import Derived.Test.YtmooaepbdmengaaGreatDoorZ29
import Derived.Test.YtmooaepbdmengaaGreatDoorZ11
import Derived.Test.YtmooaepbdmengaaGreatDoorZ02
import Derived.Deep.CutRange
import Derived.Laws.BitsAllLaws
import Derived.Deep.RegionHeld3
namespace Go.Proofs.YtmooaepbdmengaaGreatDoor
open Go.RowKit
set_option linter.unusedVariables false
set_option linter.unusedSimpArgs false
theorem strip_prefix (l:List UInt8):strip l <+: l:=by
 unfold strip
 have:=List.dropWhile_suffix (l:=l.reverse) (p:=(· == 48))
 rw [← List.reverse_prefix] at this
 simpa using this
theorem strip_head {l:List UInt8} {c:UInt8} (h:strip l≠[]) (hc:l.headD 0=c):(strip l).headD 0=c:=by
 obtain ⟨t,ht⟩:=strip_prefix l
 cases hs:strip l with
 | nil=>exact absurd hs h
 | cons x r=>rw [hs] at ht;rw [← ht] at hc;simpa using hc
theorem valL_zero (l:List Nat):valL (l++[0])=valL l:=by
 induction l with
 | nil=>rfl
 | cons x r ih=>simp only [List.cons_append,valL,ih]
theorem valL_pop {l:List Nat} {k:Nat} (hl:l.length=k+1) (h:nAtZ l k=0):valL (l.take k)=valL l:=by
 obtain ⟨r,c,rfl⟩:∃ r c,l=r++[c]:=⟨_,_,(List.dropLast_concat_getLast (by rintro rfl;simp at hl)).symm⟩
 have hk:r.length=k:=by simpa using hl
 subst hk
 have:c=0:=by simpa [nAtZ] using h
 subst this
 rw [valL_zero];simp
theorem byteCells_num (bs:List UInt8):byteCells bs=numC .u8 (bs.map UInt8.toNat):=by simp [byteCells,numC]
theorem OwnB.take {w:World} {B g n cap:Nat} {bs:List UInt8} (h:OwnB w B (.slice (some ⟨g,0,none⟩) n cap) bs) {m:Nat} (hm:m≤n):OwnB w B (.slice (some ⟨g,0,none⟩) m cap) (bs.take m):=by
 have h1:OwnN .u8 5 w B (.slice (some ⟨g,0,none⟩) n cap) (bs.map UInt8.toNat):=by
  unfold OwnN;rw [← byteCells_num,List.length_map];exact h
 have h2:=h1.take hm
 unfold OwnN at h2
 rw [← List.map_take,← byteCells_num,List.length_map] at h2
 exact h2
theorem OwnB.len {w:World} {B n cap:Nat} {a:Option Addr} {bs:List UInt8} (h:OwnB w B (.slice a n cap) bs):n=bs.length:=by
 obtain ⟨_,_,e,_⟩:=h.reads
 simp only [Value.slice.injEq] at e
 exact e.2.1
theorem OwnB.form {w:World} {B:Nat} {v:Value} {bs:List UInt8} (h:OwnB w B v bs) (h0:0 < bs.length):∃ g cap,v=.slice (some ⟨g,0,none⟩) bs.length cap∧B≤g∧g < w.heap.size:=by
 rcases h.2 with ⟨_,e⟩|⟨g,cap,cur,rfl,hb,hg,_⟩
 ·omega
 ·exact ⟨g,cap,rfl,hb,(Array.getElem?_eq_some_iff.1 hg).1⟩
theorem OwnB.cell {w:World} {B g n cap:Nat} {bs:List UInt8} (h:OwnB w B (.slice (some ⟨g,0,none⟩) n cap) bs) {j:Nat} (hj:j < n):w.cell? ⟨g,j,none⟩=some (.int .u8 (bAt bs j:Nat)):=by
 obtain rfl:=h.len
 rw [World.ownsRow.cellAt h j (by omega)]
 have:=byteCells_at bs j hj
 rw [List.getD_eq_getElem?_getD,List.getElem?_eq_getElem (by rw [byteCells_length];exact hj)] at this
 rw [List.getElem?_eq_getElem (by rw [byteCells_length];exact hj)]
 exact congrArg some this
def ExA (w:World) (N V:Nat) (v:Value) (wr:World):Prop:=
 ∃ xs,OwnN .u64 22 wr w.heap.size v xs∧(∀ x ∈ xs,x < B8)∧(0 < valL xs∧valL xs=V)∧xs.length≤N∧Below w.heap.size w wr
theorem ExA.len {xs:List Nat} (h:0 < valL xs):0 < xs.length:=by
 cases xs with
 | nil=>simp [valL] at h
 | cons=>simp
theorem ExA.more {w wr:World} {N N' V:Nat} {v:Value} (h:ExA w N V v wr) (hN:N≤N'):ExA w N' V v wr:=by
 obtain ⟨xs,a,b,c,d,e⟩:=h;exact ⟨xs,a,b,c,by omega,e⟩
theorem ExA.val {w wr:World} {N V V':Nat} {v:Value} (h:ExA w N V v wr) (hV:V=V'):ExA w N V' v wr:=by subst hV;exact h
theorem ExA.times {w wr:World} {N V:Nat} {v:Value} (h:ExA w N V v wr) (hN:N < 99999) (m:Nat) (hm:m < B8) (h0:0 < m) (c:Int) (hc:c=(m:Int)) :
  Calls Tryz.prog 112 #[v,.int .u64 c] wr fun e w'=>∃ v',e=.returned v'∧Hid (ExA w (N+1) (V * m) v' w'):=by
 obtain ⟨xs,ho,hx,hv,hl,hb⟩:=h
 subst hc
 refine (times_calls m hm v xs w.heap.size wr ho (ExA.len hv.1) (by omega) hx hb.size).mono ?_
 rintro e w' ⟨⟨v',rfl,ho'⟩,hb'⟩
 refine ⟨v',rfl,⟨_,ho',timesL_lt m hm xs 0 (by omega) hx,⟨?_,?_⟩,?_,hb.trans hb'⟩⟩
 ·rw [timesL_val];have:=Nat.mul_pos hv.1 h0;omega
 ·rw [timesL_val,Nat.zero_add,hv.2]
 ·have:=(timesL_len m xs 0).2;omega
theorem two_pow (m:Nat) (q:Int) (k:Nat) (c:Nat) (hc:c=2 ^ k) (h:0≤q):m * 2 ^ q.toNat * c=m * 2 ^ (q+k).toNat:=by
 rw [hc,Nat.mul_assoc,← Nat.pow_add];congr 2;omega
theorem five_pow (m:Nat) (q:Int) (k:Nat) (c:Nat) (hc:c=5 ^ k) (h:q≤0):m * 5 ^ (-q).toNat * c=m * 5 ^ (-(q - k)).toNat:=by
 rw [hc,Nat.mul_assoc,← Nat.pow_add];congr 2;omega
def Dg (l:List UInt8):Prop:=(∀ c ∈ l,dig c=true)∧l≠[]∧l.headD 0≠48
def ExV (m:Nat) (ee:Int) (d:List UInt8) (x:Int):Prop:=∃ L:Nat,x=(L:Int)+min ee 0∧d.length≤L∧beV d * 10 ^ (L - d.length)=m * 2 ^ ee.toNat * 5 ^ (-ee).toNat
def ExO (m:Nat) (ee:Int) (e:Ending):Prop:=∃ (b:ByteArray) (x:Int),e=.returned (.tuple #[.string b,.int .i64 x])∧Dg (sl b)∧b.size≤960∧-1100≤x∧x≤1000∧ExV m ee (sl b) x
def Ex2 (w:World) (m:Nat) (ee:Int) (a k:Value) (wr:World):Prop:=∃ (q:Int) (N:Nat),k=.int .i64 q∧0≤q∧20 * (N:Int)≤q∧(q≤ee∨q=0)∧ExA w (3+N) (m * 2 ^ q.toNat) a wr
def Ex3 (w:World) (m:Nat) (ee:Int) (a k:Value) (wr:World):Prop:=∃ (q:Int) (N:Nat),k=.int .i64 q∧0≤q∧(0≤ee→(N:Int)+(ee - q)≤72∧q≤ee)∧N≤72∧(ee < 0→N=3∧q=0)∧ExA w N (m * 2 ^ q.toNat) a wr
def Ex4 (w:World) (m:Nat) (ee:Int) (a k:Value) (wr:World):Prop:=∃ (q:Int) (N:Nat),k=.int .i64 q∧q≤0∧((0≤ee∧q=0∧N≤72)∨(ee < 0∧10 * (N:Int)≤30 - q∧ee≤q))∧ExA w N (m * 2 ^ ee.toNat * 5 ^ (-q).toNat) a wr
def Ex5 (w:World) (m:Nat) (ee:Int) (a k:Value) (wr:World):Prop:=∃ (q:Int) (N:Nat),k=.int .i64 q∧q≤0∧((0≤ee∧q=0∧N≤72)∨(ee < 0∧(N:Int)+(q - ee)≤119∧ee≤q))∧ExA w N (m * 2 ^ ee.toNat * 5 ^ (-q).toNat) a wr
def Ex6 (w:World) (xs:List Nat) (va o i:Value) (wr:World):Prop:=∃ p:Nat,i=.int .i64 (p:Nat)∧p≤xs.length∧OwnB wr w.heap.size o (limbD (xs.take p))∧OwnN .u64 22 wr w.heap.size va xs∧Sep o va∧Below w.heap.size w wr
def Ex7 (w:World) (T:List UInt8) (xs:List Nat) (va o v j:Value) (wr:World):Prop:=∃ (q y:Nat) (bs:List UInt8),j=.int .i64 (q:Nat)∧v=.int .u64 (y:Nat)∧y < 18446744073709551616∧q≤8∧bs++digK (8 - q) y=T∧OwnB wr w.heap.size o bs∧OwnN .u64 22 wr w.heap.size va xs∧Sep o va∧Below w.heap.size w wr
def Ex8 (w:World) (S:List UInt8) (o:Value) (wr:World):Prop:=∃ bs,strip bs=S∧bs.length≤960∧OwnB wr w.heap.size o bs∧Below w.heap.size w wr
theorem limbD_take {xs:List Nat} {p:Nat} (hp:p < xs.length):limbD (xs.take (p+1))=limbD (xs.take p)++digK 8 (nAtZ xs p):=by
 rw [List.take_succ_eq_append_getElem hp]
 have e:nAtZ xs p=xs[p]:=by simp [nAtZ,List.getD_eq_getElem?_getD,List.getElem?_eq_getElem hp]
 rw [e]
 unfold limbD
 rw [List.map_append,List.flatten_append,List.map_singleton,List.flatten_singleton]
theorem rev_take {S:List UInt8} {p k:Nat} (h:k+1+p=S.length):S.reverse.take (p+1)=S.reverse.take p++[UInt8.ofNat (bAt S k)]:=by
 rw [List.take_succ_eq_append_getElem (by simp;omega)]
 congr 1
 have:S.length - 1 - p=k:=by omega
 simp [bAt,List.getElem_reverse,this,List.getD_eq_getElem?_getD,List.getElem?_eq_getElem (show k < S.length by omega)]
theorem bAt_48 {l:List UInt8} {n:Nat} (hn:l.length=n+1):(bAt l n=48 ↔ l.getD (l.length - 1) 0=48):=by
 rw [hn,Nat.add_sub_cancel]
 constructor
 ·intro h;apply UInt8.toNat_inj.1;exact h
 ·intro h;unfold bAt;rw [h];rfl
def Ex9 (w:World) (S:List UInt8) (vo d i:Value) (wr:World):Prop:=∃ p:Nat,((∃ k:Nat,i=.int .i64 (k:Nat)∧k+1+p=S.length)∨(i=.int .i64 (-1)∧p=S.length))∧OwnB wr w.heap.size d (S.reverse.take p)∧OwnB wr w.heap.size vo S∧Sep d vo∧Below w.heap.size w wr
set_option maxRecDepth 100000 in
set_option maxHeartbeats 8000000 in
theorem exact_calls (m:Nat) (hm0:0 < m) (hm:m < 18446744073709551616) (ee:Int) (he1:-1076≤ee) (he2:ee≤985) (w:World) :
  Calls Tryz.prog 101 #[.int .u64 (m:Nat),.int .i64 ee] w fun e w'=>ExO m ee e∧Below w.heap.size w w':=by
 obtain ⟨x0,hx0⟩:∃ x,x=m % 100000000:=⟨_,rfl⟩
 obtain ⟨d0,hd0⟩:∃ x,x=m / 100000000:=⟨_,rfl⟩
 obtain ⟨x1,hx1⟩:∃ x,x=d0 % 100000000:=⟨_,rfl⟩
 obtain ⟨x2,hx2⟩:∃ x,x=m / 10000000000000000:=⟨_,rfl⟩
 have r0:(m:Int).tmod 100000000=(x0:Int):=by rw [Int.tmod_eq_emod_of_nonneg (by omega)];omega
 have r1:(m:Int).tdiv 100000000=(d0:Int):=by rw [Int.tdiv_eq_ediv_of_nonneg (by omega)];omega
 have r2:(d0:Int).tmod 100000000=(x1:Int):=by rw [Int.tmod_eq_emod_of_nonneg (by omega)];omega
 have r3:(m:Int).tdiv 10000000000000000=(x2:Int):=by rw [Int.tdiv_eq_ediv_of_nonneg (by omega)];omega
 have w0:IntKind.u64.wrap (x0:Int)=(x0:Int):=by rw [IntKind.wrap_u64];omega
 have w1:IntKind.u64.wrap (d0:Int)=(d0:Int):=by rw [IntKind.wrap_u64];omega
 have w2:IntKind.u64.wrap (x1:Int)=(x1:Int):=by rw [IntKind.wrap_u64];omega
 have w3:IntKind.u64.wrap (x2:Int)=(x2:Int):=by rw [IntKind.wrap_u64];omega
 have H0:Hid (ExA w 3 m (.slice (some ⟨w.heap.size,0,none⟩) 3 3) (w.alloc (.cells #[.int .u64 (x0:Nat),.int .u64 (x1:Nat),.int .u64 (x2:Nat)] 22))):=by
  refine ⟨[x0,x1,x2],OwnN.made w (Nat.le_refl _) (by simp),?_,?_,by simp,(Below.refl _ _).alloc (Nat.le_refl _) _⟩
  ·intro x hx
   simp only [List.mem_cons,List.not_mem_nil,or_false] at hx
   unfold B8
   omega
  ·exact ⟨by simp only [valL,B8];omega,by simp only [valL,B8];omega⟩
 clear hx0 hd0 hx1 hx2
 go_enter Tryz.func101,Tryz.ntmps101
 go_wp2_with fail
 go_loopw [6] (fun a wr=>Hid (ExA w 3 m a wr)) (fun a _=>match a with|.slice _ n _=>n|_=>0)
 case atStart=>exact H0
 case round=>
  obtain ⟨xs,hO,hx,hv,hl,hB⟩:=hrel
  obtain ⟨g,cap,rfl,hBg,hgw,hnc,hcm⟩:=hO.form (ExA.len hv.1)
  obtain ⟨n,hn⟩:∃ n,xs.length=n+1:=⟨xs.length - 1,by have:=ExA.len hv.1;omega⟩
  rw [hn] at hO hl hnc
  rw [hn]
  have HV:=Lib.hid hv
  have hc:=hO.cell (j:=n) (by omega)
  obtain ⟨y,hy⟩:∃ y,nAtZ xs n=y:=⟨_,rfl⟩
  rw [hy] at hc
  have HA:Hid (ExA w 3 m (.slice (some ⟨g,0,none⟩) (n+1) cap) wr):=⟨xs,hO,hx,hv,by omega,hB⟩
  have c1:¬ n+1 > cap:=by omega
  have hcc:n≤cap:=by omega
  have hn3:n≤2:=by omega
  have HP:Hid (y=0→ExA w 3 m (.slice (some ⟨g,0,none⟩) n cap) wr):=fun h=>⟨xs.take n,hO.take (by omega),fun x hxx=>hx x (List.mem_of_mem_take hxx),by rw [valL_pop hn (by rw [hy,h])];exact hv,by simp;omega,hB⟩
  clear hO hx hv hl hB hn hy HV
  obtain ⟨C,hC⟩:∃ C,C=(decide (0 < n) && decide (y=0)):=⟨_,rfl⟩
  have HC:=Lib.hid hC
  go_upto_region 2 with fail
  go_cut [34] from 23 to 39 (fun p W=>p=.bool C∧W=wr)
  case first=>
   by_cases h1:0 < n
   ·by_cases hy0:y=0
    ·subst hy0
     have hc9:C=true:=by rw [hC];simp [h1]
     clear hC
     go_wp2_with fail
     go_meet
     case rel=>exact ⟨by rw [hc9],rfl⟩
    ·have d0:((y:Int) == 0)=false:=by simp;omega
     have hc9:C=false:=by rw [hC];simp [hy0]
     clear hC hy0
     go_wp2_with fail
     go_meet
     case rel=>exact ⟨by rw [hc9],rfl⟩
   ·have hc9:C=false:=by rw [hC];simp;omega
    clear hC
    go_wp2_with fail
    go_meet
    case rel=>exact ⟨by rw [hc9],rfl⟩
  obtain ⟨rfl,rfl⟩:=hcut
  clear hc
  cases C with
  | true=>
   obtain ⟨h1,hy0⟩:0 < n∧y=0:=by simpa using hC.symm
   have HP:=Lib.hid (HP.out hy0)
   clear hC hy0
   go_wp2_with fail
   go_roundw
   case rel=>exact HP
   case measure=>simp
  | false=>
  clear HP HC hC
  obtain ⟨va,hva⟩:∃ va,Value.slice (some ⟨g,0,none⟩) (n+1) cap=va:=⟨_,rfl⟩
  simp only [hva]
  rw [hva] at HA
  clear hva hnc hcm c1 hcc hn3 hBg hgw
  have HL0:Hid (Ex2 w m ee va (.int .i64 0) wc):=⟨0,0,rfl,by omega,by omega,.inr rfl,HA.out.val (by simp)⟩
  clear HA
  go_wp2_with fail
  go_loopw [6,7] (fun a k wr=>∃ va,va=a∧Hid (Ex2 w m ee va k wr)) (fun _ k _=>(ee+2000 - intOf k).toNat)
  case atStart=>exact ⟨_,rfl,HL0⟩
  case round=>
   obtain ⟨va,rfl,hrel⟩:=hrel
   obtain ⟨q,N,rfl,hq0,hN,hqe,hA⟩:=hrel
   have HA:=Lib.hid hA
   clear hA
   have s1:IntKind.i64.wrap (q+20)=q+20:=IntWalk.i64_in _ (by omega)
   by_cases hlt:q+20≤ee
   ·have dl:decide (q+20≤ee)=true:=by simp;omega
    have CT:=Lib.hid (HA.out.times (by omega) 1048576 (by unfold B8;omega) (by omega) (1048576:Int) rfl)
    go_wp2_with fail
    refine CT.out.mono ?_
    rintro e w5 ⟨v5,rfl,HA5⟩
    have HN:Hid (Ex2 w m ee v5 (.int .i64 (q+20)) w5):=⟨q+20,N+1,rfl,by omega,by omega,by omega,(HA5.out.more (by omega)).val (two_pow m q 20 _ (by decide) hq0)⟩
    clear CT HA HA5 hN hqe
    go_wp2_with fail
    go_roundw
    case rel=>exact ⟨_,rfl,HN⟩
    case measure=>simp [intOf];omega
   ·have dl:decide (q+20≤ee)=false:=by simp;omega
    have HL0:Hid (Ex3 w m ee va (.int .i64 q) wr):=⟨q,3+N,rfl,by omega,fun h=>by omega,by omega,fun h=>by omega,HA.out.more (by omega)⟩
    clear HA hN hqe hlt hq0
    go_wp2_with fail
    go_loopw [6,7] (fun a k wr=>∃ va,va=a∧Hid (Ex3 w m ee va k wr)) (fun _ k _=>(ee+2000 - intOf k).toNat)
    case atStart=>exact ⟨_,rfl,HL0⟩
    case round=>
     obtain ⟨va,rfl,hrel⟩:=hrel
     obtain ⟨q,N,rfl,hq0,hN,hN2,hN3,hA⟩:=hrel
     have HA:=Lib.hid hA
     clear hA
     have s1:IntKind.i64.wrap (q+1)=q+1:=IntWalk.i64_in _ (by omega)
     by_cases hlt:q < ee
     ·have dl:decide (q < ee)=true:=by simp;omega
      have CT:=Lib.hid (HA.out.times (by omega) 2 (by unfold B8;omega) (by omega) (2:Int) rfl)
      go_wp2_with fail
      refine CT.out.mono ?_
      rintro e w5 ⟨v5,rfl,HA5⟩
      have HN:Hid (Ex3 w m ee v5 (.int .i64 (q+1)) w5):=⟨q+1,N+1,rfl,by omega,fun h=>by omega,by omega,fun h=>by omega,HA5.out.val (two_pow m q 1 _ (by decide) hq0)⟩
      clear CT HA HA5 hN hN2 hN3
      go_wp2_with fail
      go_roundw
      case rel=>exact ⟨_,rfl,HN⟩
      case measure=>simp [intOf];omega
     ·have dl:decide (q < ee)=false:=by simp;omega
      have HL0:Hid (Ex4 w m ee va (.int .i64 0) wr):=⟨0,N,rfl,by omega,by omega,HA.out.val (by rw [show q.toNat=ee.toNat by omega];simp)⟩
      clear HA hN hN2 hN3 hlt hq0
      go_wp2_with fail
      go_loopw [6,7] (fun a k wr=>∃ va,va=a∧Hid (Ex4 w m ee va k wr)) (fun _ k _=>(intOf k+2000).toNat)
      case atStart=>exact ⟨_,rfl,HL0⟩
      case round=>
       obtain ⟨va,rfl,hrel⟩:=hrel
       obtain ⟨q,N,rfl,hq0,hN,hA⟩:=hrel
       have HA:=Lib.hid hA
       clear hA
       have s1:IntKind.i64.wrap (q - 10)=q - 10:=IntWalk.i64_in _ (by omega)
       by_cases hlt:ee≤q - 10
       ·have dl:decide (ee≤q - 10)=true:=by simp;omega
        have CT:=Lib.hid (HA.out.times (by omega) 9765625 (by unfold B8;omega) (by omega) (9765625:Int) rfl)
        go_wp2_with fail
        refine CT.out.mono ?_
        rintro e w5 ⟨v5,rfl,HA5⟩
        have HN:Hid (Ex4 w m ee v5 (.int .i64 (q - 10)) w5):=⟨q - 10,N+1,rfl,by omega,by omega,HA5.out.val (five_pow _ q 10 _ (by decide) hq0)⟩
        clear CT HA HA5 hN
        go_wp2_with fail
        go_roundw
        case rel=>exact ⟨_,rfl,HN⟩
        case measure=>simp [intOf];omega
       ·have dl:decide (ee≤q - 10)=false:=by simp;omega
        have HL0:Hid (Ex5 w m ee va (.int .i64 q) wr):=⟨q,N,rfl,by omega,by omega,HA.out⟩
        clear HA hN hlt hq0
        go_wp2_with fail
        go_loopw [6,7] (fun a k wr=>∃ va,va=a∧Hid (Ex5 w m ee va k wr)) (fun _ k _=>(intOf k+2000).toNat)
        case atStart=>exact ⟨_,rfl,HL0⟩
        case round=>
         obtain ⟨va,rfl,hrel⟩:=hrel
         obtain ⟨q,N,rfl,hq0,hN,hA⟩:=hrel
         have HA:=Lib.hid hA
         clear hA
         have s1:IntKind.i64.wrap (q - 1)=q - 1:=IntWalk.i64_in _ (by omega)
         by_cases hlt:ee < q
         ·have dl:decide (ee < q)=true:=by simp;omega
          have CT:=Lib.hid (HA.out.times (by omega) 5 (by unfold B8;omega) (by omega) (5:Int) rfl)
          go_wp2_with fail
          refine CT.out.mono ?_
          rintro e w5 ⟨v5,rfl,HA5⟩
          have HN:Hid (Ex5 w m ee v5 (.int .i64 (q - 1)) w5):=⟨q - 1,N+1,rfl,by omega,by omega,HA5.out.val (five_pow _ q 1 _ (by decide) hq0)⟩
          clear CT HA HA5 hN
          go_wp2_with fail
          go_roundw
          case rel=>exact ⟨_,rfl,HN⟩
          case measure=>simp [intOf];omega
         ·have dl:decide (ee < q)=false:=by simp;omega
          have hN9:N≤119:=by omega
          have HA:=Lib.hid (HA.out.val (V':=m * 2 ^ ee.toNat * 5 ^ (-ee).toNat) (by rw [show (-q).toNat=(-ee).toNat by omega]))
          clear hN hlt hq0
          obtain ⟨xs,hO,hx,hv,hl,hB⟩:=HA.out
          obtain ⟨g,cap,rfl,hBg,hgw,-,-⟩:=hO.form (ExA.len hv.1)
          have H0:Hid (Ex6 w xs (.slice (some ⟨g,0,none⟩) xs.length cap) (.slice none 0 0) (.int .i64 0) wr):=⟨0,rfl,by omega,World.ownsRow_nil _ _ _ _,hO,Sep.nil _,hB⟩
          obtain ⟨n,hn⟩:∃ n,n=xs.length:=⟨_,rfl⟩
          have HX:=Lib.hid hx
          have HV:=Lib.hid hv
          have HNN:=Lib.hid hn
          rw [← hn] at H0 hl ⊢
          clear HA hO hx hv hB hn hBg hgw
          have hn120:n≤119:=by omega
          clear hl hN9
          go_wp2_with fail
          go_loopw [8,9,10,11] (fun o i v j wr=>∃ vo,vo=o∧Hid (Ex6 w xs (.slice (some ⟨g,0,none⟩) n cap) vo i wr)) (fun _ i _ _ _=>n - (intOf i).toNat)
          case atStart=>exact ⟨_,rfl,H0⟩
          case round=>
           obtain ⟨o,rfl,hrel⟩:=hrel
           obtain ⟨p,rfl,hp,hob,hon,hsp,hB⟩:=hrel
           rw [← HNN.out] at hp
           by_cases hlt:p < n
           ·have hc:=hon.cell hlt
            have hxb:nAtZ xs p < B8:=HX.out _ (by
             have:p < xs.length:=by rw [← HNN.out];exact hlt
             simp [nAtZ,List.getD_eq_getElem?_getD,List.getElem?_eq_getElem this])
            have hT:=limbD_take (xs:=xs) (p:=p) (by rw [← HNN.out];exact hlt)
            obtain ⟨x,hx⟩:∃ x,nAtZ xs p=x:=⟨_,rfl⟩
            rw [hx] at hc hxb hT
            obtain ⟨T,hTe⟩:∃ T,limbD (xs.take (p+1))=T:=⟨_,rfl⟩
            rw [hTe] at hT
            unfold B8 at hxb
            have H7:Hid (Ex7 w T xs (.slice (some ⟨g,0,none⟩) n cap) o (.int .u64 (x:Nat)) (.int .i64 0) wr):=⟨0,x,_,rfl,rfl,by omega,by omega,hT.symm,hob,hon,hsp,hB⟩
            have HTE:=Lib.hid hTe
            clear hob hon hsp hB hT hTe hx
            obtain ⟨wo,rfl⟩:∃ wo:World,wo=wr:=⟨_,rfl⟩
            go_wp2_with fail
            go_loopw [8,10,11] (fun o v j wr=>∃ vo,vo=o∧Hid (Ex7 w T xs (.slice (some ⟨g,0,none⟩) n cap) vo v j wr)) (fun _ _ j _=>8 - (intOf j).toNat)
            case atStart=>exact ⟨_,rfl,H7⟩
            case round=>
             obtain ⟨o,rfl,hrel⟩:=hrel
             obtain ⟨q,y,bs,rfl,rfl,hy,hq,hbs,hob,hon,hsp,hB⟩:=hrel
             by_cases hq8:q < 8
             ·obtain ⟨r,hr⟩:∃ r,r=y % 10:=⟨_,rfl⟩
              obtain ⟨z,hz⟩:∃ z,z=y / 10:=⟨_,rfl⟩
              obtain ⟨s,hs⟩:∃ s,s=48+r:=⟨_,rfl⟩
              have e1:(y:Int).tmod 10=(r:Int):=by rw [Int.tmod_eq_emod_of_nonneg (by omega)];omega
              have e2:(y:Int).tdiv 10=(z:Int):=by rw [Int.tdiv_eq_ediv_of_nonneg (by omega)];omega
              have e3:IntKind.u64.wrap (r:Int)=(r:Int):=by rw [IntKind.wrap_u64];omega
              have e4:IntKind.u64.wrap (48+(r:Int))=(s:Int):=by rw [IntKind.wrap_u64];omega
              have e5:IntKind.u8.wrap (s:Int)=(s:Int):=by rw [IntKind.wrap_u8];omega
              have e6:IntKind.u64.wrap (z:Int)=(z:Int):=by rw [IntKind.wrap_u64];omega
              have HD:Hid ((bs++[UInt8.ofNat s])++digK (8 - (q+1)) z=T):=by
               show _=_
               rw [← hbs,show 8 - q=(8 - (q+1))+1 by omega,hs,hr,hz]
               simp [digK]
              have hbl:bs.length≤2000:=by
               have h1:=congrArg List.length hbs
               have h2:=congrArg List.length HTE.out
               rw [limbD_len,List.length_take] at h2
               rw [List.length_append] at h1
               omega
              have HO1:=Lib.hid (World.ownsRow.alloc hob (.cells #[.int .u8 (s:Nat)] 5))
              have HO2:=Lib.hid (World.ownsRow.alloc hon (.cells #[.int .u8 (s:Nat)] 5))
              have HB1:=Lib.hid (hB.alloc hB.size (.cells #[.int .u8 (s:Nat)] 5))
              have hsz:w.heap.size≤(wr.alloc (.cells #[.int .u8 (s:Nat)] 5)).heap.size:=HB1.out.size
              have HSZ:=Lib.hid hsz
              have HSP:=Lib.hid hsp
              have hs256:s < 256:=by omega
              have hz64:z < 18446744073709551616:=by omega
              have HSRC:=Lib.hid (srcB_one wr s hs256)
              clear hbs hob hon hsp hB hr hz hs hsz
              go_wp2_with (at_builtin;refine wpList_appB (v:=o) (bs:=bs) (sv:=.slice (some ⟨wr.heap.size,0,none⟩) 1 1) (l:=[UInt8.ofNat s]) (B:=w.heap.size) (by rfl) _ _ (by rfl) (by rfl) HO1.out (by rfl) HSRC.out (by simp;omega) HSZ.out ?_;intro v5 w5 ho5 hA5;have HO5:=Lib.hid ho5;have HA5:=Lib.hid hA5;clear ho5 hA5)
              have HN:Hid (Ex7 w T xs (.slice (some ⟨g,0,none⟩) n cap) v5 (.int .u64 (z:Nat)) (.int .i64 ((q+1:Nat):Int)) w5):=
               ⟨q+1,z,_,rfl,rfl,hz64,by omega,HD.out,HO5.out,HA5.out.owns HSP.out HO2.out,HA5.out.sep HSP.out HO2.out,HA5.out.below HB1.out HSZ.out (fun k hk=>(World.ownsRow.lt HO1.out k hk).1)⟩
              go_wp2_with fail
              go_roundw
              case rel=>exact ⟨_,rfl,HN⟩
              case measure=>simp [intOf];omega
             ·have hbT:bs=T:=by
               rw [show 8 - q=0 by omega] at hbs
               simpa [digK] using hbs
              have HN:Hid (Ex6 w xs (.slice (some ⟨g,0,none⟩) n cap) o (.int .i64 ((p+1:Nat):Int)) wr):=
               ⟨p+1,rfl,by rw [← HNN.out];omega,by rw [HTE.out,← hbT];exact hob,hon,hsp,hB⟩
              clear hbs hob hon hsp hB hbT
              go_wp2_with fail
              go_roundw
              case rel=>exact ⟨_,rfl,HN⟩
              case measure=>simp [intOf];omega
           ·obtain rfl:p=n:=by omega
            obtain ⟨S,hS⟩:∃ S,strip (limbD xs)=S:=⟨_,rfl⟩
            obtain ⟨x9,hx9,hx0⟩:=valL_pos HV.out.1
            obtain ⟨r9,c9,hr9,hc9⟩:=strip_ne (limbD_pos HX.out hx9 hx0)
            have H8:Hid (Ex8 w S o wr):=by
             refine ⟨limbD xs,hS,?_,?_,hB⟩
             ·rw [limbD_len,← HNN.out];omega
             ·have:=hob;rwa [HNN.out,List.take_length] at this
            have HSV:Hid (leV S=m * 2 ^ ee.toNat * 5 ^ (-ee).toNat):=Lib.hid (by rw [← hS,leV_strip,leV_limbD xs HX.out,HV.out.2])
            have HS:Hid (S=r9++[c9]∧c9≠48∧(∀ c ∈ S,dig c=true)∧S.length≤952):=by
             refine ⟨by rw [← hS,hr9],hc9,fun c hc=>?_,?_⟩
             ·rw [← hS] at hc;exact limbD_dig xs c (strip_mem _ c hc)
             ·rw [← hS];have:=strip_le (limbD xs);rw [limbD_len,← HNN.out] at this;omega
            clear hS hr9 hc9 hx9 hx0 hob hon hsp hB hp hlt
            go_wp2_with fail
            go_loopw [8] (fun o wr=>Hid (Ex8 w S o wr)) (fun o _=>match o with|.slice _ n _=>n|_=>0)
            case atStart=>exact H8
            case round=>
             obtain ⟨bs,hS,hbl,hob,hB⟩:=hrel
             have hb0:0 < bs.length:=by
              have:=strip_le bs
              rw [hS] at this
              have:=(show 0 < S.length by rw [HS.out.1];simp)
              omega
             obtain ⟨g,cap,rfl,hBg,hgw⟩:=hob.form hb0
             obtain ⟨n,hn⟩:∃ n,bs.length=n+1:=⟨bs.length - 1,by omega⟩
             have hncap:n+1≤cap:=by
              rcases hob.2 with ⟨h,_⟩|⟨_,_,_,h,_,_,h2,_⟩
              ·simp at h
              ·simp only [Value.slice.injEq] at h
               omega
             rw [hn] at hob hbl
             rw [hn]
             have hc:=hob.cell (j:=n) (by omega)
             have hiff:=bAt_48 hn
             have hne:bs≠[]:=by rintro rfl;simp at hb0
             obtain ⟨y,hy⟩:∃ y,bAt bs n=y:=⟨_,rfl⟩
             rw [hy] at hc hiff
             have hy9:y < 256:=by rw [← hy];exact bAt_lt _ _
             have HP:Hid (y=48→Ex8 w S (.slice (some ⟨g,0,none⟩) n cap) wr):=fun h=>⟨bs.take n,by rw [← hS,strip_dropLast hne (hiff.1 h),hn,Nat.add_sub_cancel],by simp;omega,hob.take (by omega),hB⟩
             have HQ:Hid (y≠48→OwnB wr w.heap.size (.slice (some ⟨g,0,none⟩) (n+1) cap) S):=fun h=>by
              have e:bs=S:=by rw [← hS,strip_stop hne (fun e=>h (hiff.2 e))]
              rw [← e];exact hob
             have HLN:Hid (y≠48→n+1=S.length):=fun h=>by
              have e:bs=S:=by rw [← hS,strip_stop hne (fun e=>h (hiff.2 e))]
              rw [← e,hn]
             have HB:=Lib.hid hB
             have hn9:n≤960:=by omega
             clear hS hbl hob hb0 hn hiff hne hy hB hBg hgw
             obtain ⟨C,hC⟩:∃ C,C=decide (y=48):=⟨_,rfl⟩
             go_upto_region 28 with fail
             go_cut [104] from 93 to 109 (fun p W=>p=.bool C∧W=wr)
             case first=>
              by_cases hy0:y=48
              ·subst hy0
               have hc9:C=true:=by rw [hC];simp
               clear hC
               go_wp2_with fail
               go_meet
               case rel=>exact ⟨by rw [hc9],rfl⟩
              ·have d0:((y:Int) == 48)=false:=by simp;omega
               have hc9:C=false:=by rw [hC];simp [hy0]
               clear hC hy0
               go_wp2_with fail
               go_meet
               case rel=>exact ⟨by rw [hc9],rfl⟩
             obtain ⟨rfl,rfl⟩:=hcut
             clear hc
             cases C with
             | true=>
              have hy0:y=48:=of_decide_eq_true hC.symm
              have HP:=Lib.hid (HP.out hy0)
              clear hC hy0
              go_wp2_with fail
              go_roundw
              case rel=>exact HP
              case measure=>simp
             | false=>
             have hy0:y≠48:=of_decide_eq_false hC.symm
             have HO:=Lib.hid (HQ.out hy0)
             have HLN:=HLN.out hy0
             clear HP HQ hC hy0
             have H9:Hid (Ex9 w S (.slice (some ⟨g,0,none⟩) (n+1) cap) (.slice none 0 0) (.int .i64 (n:Nat)) wc):=⟨0,.inl ⟨n,rfl,by omega⟩,World.ownsRow_nil _ _ _ _,HO.out,Sep.nil _,HB.out⟩
             have HSL:=Lib.hid HLN
             clear HO HLN HB
             have hnS:=HSL.out
             have HB9:Hid (n+1≤952):=by have:=HS.out.2.2.2;show _≤_;omega
             have hb9:=HB9.out
             go_upto_region 30 with fail
             go_cut [12] from 110 to 114 (fun p W=>(∃ z:Int,p=.int .i64 z∧-1100≤z∧z≤1000∧z=(n:Int)+1+min ee 0)∧W=wc)
             case first=>
              by_cases hee:ee≤0
              ·have v1:IntKind.i64.wrap ((n:Int)+1+ee)=(n:Int)+1+ee:=IntWalk.i64_in _ (by omega)
               clear hnS
               go_wp2_with fail
               all_goals
                go_meet
                case rel=>exact ⟨⟨_,rfl,by omega,by omega,by omega⟩,rfl⟩
              ·have hee':0 < ee:=by omega
               clear hnS
               go_wp2_with fail
               all_goals
                go_meet
                case rel=>exact ⟨⟨_,rfl,by omega,by omega,by omega⟩,rfl⟩
             obtain ⟨⟨zx,rfl,hzx1,hzx2,hzx3⟩,rfl⟩:=hcut
             have HZX:Hid (zx=(S.length:Int)+min ee 0):=Lib.hid (by rw [hzx3];omega)
             clear hzx3
             clear hnS
             go_wp2_with fail
             go_loopw [13,14] (fun d i wr=>∃ dv,dv=d∧Hid (Ex9 w S (.slice (some ⟨g,0,none⟩) (n+1) cap) dv i wr)) (fun _ i _=>(intOf i+1).toNat)
             case atStart=>exact ⟨_,rfl,H9⟩
             case round=>
              obtain ⟨dv,rfl,hrel⟩:=hrel
              obtain ⟨p,hik,hod,hos,hsp,hB⟩:=hrel
              rcases hik with ⟨k,rfl,hkp⟩|⟨rfl,hpS⟩
              ·have hkn:k < n+1:=by have:=HSL.out;omega
               have hc:=hos.cell hkn
               have hrt:=rev_take hkp
               obtain ⟨y,hy⟩:∃ y,bAt S k=y:=⟨_,rfl⟩
               rw [hy] at hc hrt
               have hy9:y < 256:=by rw [← hy];exact bAt_lt _ _
               have HO1:=Lib.hid (World.ownsRow.alloc hod (.cells #[.int .u8 (y:Nat)] 5))
               have HO2:=Lib.hid (World.ownsRow.alloc hos (.cells #[.int .u8 (y:Nat)] 5))
               have HB1:=Lib.hid (hB.alloc hB.size (.cells #[.int .u8 (y:Nat)] 5))
               have HSZ:Hid (w.heap.size≤(wr.alloc (.cells #[.int .u8 (y:Nat)] 5)).heap.size):=HB1.out.size
               have HSP:=Lib.hid hsp
               have HSRC:=Lib.hid (srcB_one wr y hy9)
               have HTL:Hid ((S.reverse.take p).length≤2000):=by
                show _≤_
                rw [List.length_take,List.length_reverse];have:=HS.out.2.2.2;omega
               have HRT:=Lib.hid hrt
               have HKP:=Lib.hid hkp
               have hi1:(k:Int) < (n:Int)+1:=by omega
               have hkz:k=0∨∃ k',k=k'+1:=by cases k with|zero=>exact .inl rfl|succ k'=>exact .inr ⟨k',rfl⟩
               clear hod hos hsp hB hrt hy hkp
               rcases hkz with rfl|⟨k',rfl⟩
               ·go_wp2_with (at_builtin;refine wpList_appB (v:=dv) (bs:=S.reverse.take p) (sv:=.slice (some ⟨wr.heap.size,0,none⟩) 1 1) (l:=[UInt8.ofNat y]) (B:=w.heap.size) (by rfl) _ _ (by rfl) (by rfl) HO1.out (by rfl) HSRC.out (by have:=HTL.out;simp only [List.length_singleton];omega) HSZ.out ?_;intro v5 w5 ho5 hA5;have HO5:=Lib.hid ho5;have HA5:=Lib.hid hA5;clear ho5 hA5)
                have HN:Hid (Ex9 w S (.slice (some ⟨g,0,none⟩) (n+1) cap) v5 (.int .i64 (-1)) w5):=
                 ⟨p+1,.inr ⟨rfl,by have:=HKP.out;omega⟩,by rw [HRT.out];exact HO5.out,HA5.out.owns HSP.out HO2.out,HA5.out.sep HSP.out HO2.out,HA5.out.below HB1.out HSZ.out (fun k hk=>(World.ownsRow.lt HO1.out k hk).1)⟩
                go_wp2_with fail
                go_roundw
                case rel=>exact ⟨_,rfl,HN⟩
                case measure=>simp [intOf]
               ·go_wp2_with (at_builtin;refine wpList_appB (v:=dv) (bs:=S.reverse.take p) (sv:=.slice (some ⟨wr.heap.size,0,none⟩) 1 1) (l:=[UInt8.ofNat y]) (B:=w.heap.size) (by rfl) _ _ (by rfl) (by rfl) HO1.out (by rfl) HSRC.out (by have:=HTL.out;simp only [List.length_singleton];omega) HSZ.out ?_;intro v5 w5 ho5 hA5;have HO5:=Lib.hid ho5;have HA5:=Lib.hid hA5;clear ho5 hA5)
                have HN:Hid (Ex9 w S (.slice (some ⟨g,0,none⟩) (n+1) cap) v5 (.int .i64 (k':Nat)) w5):=
                 ⟨p+1,.inl ⟨k',rfl,by have:=HKP.out;omega⟩,by rw [HRT.out];exact HO5.out,HA5.out.owns HSP.out HO2.out,HA5.out.sep HSP.out HO2.out,HA5.out.below HB1.out HSZ.out (fun k hk=>(World.ownsRow.lt HO1.out k hk).1)⟩
                go_wp2_with fail
                go_roundw
                case rel=>exact ⟨_,rfl,HN⟩
                case measure=>simp [intOf];omega
              ·obtain ⟨D,hD⟩:∃ D,strip S.reverse=D:=⟨_,rfl⟩
               have hSe:=HS.out.1
               have hrv:S.reverse=c9::r9.reverse:=by rw [hSe];simp
               obtain ⟨r8,c8,hr8,hc8⟩:=strip_ne (l:=S.reverse) ⟨c9,by rw [hrv];simp,HS.out.2.1⟩
               have H8:Hid (Ex8 w D dv wr):=by
                refine ⟨S.reverse,hD,?_,?_,hB⟩
                ·rw [List.length_reverse];have:=HS.out.2.2.2;omega
                ·have e8:S.length=S.reverse.length:=by simp
                 have:=hod
                 rwa [hpS,e8,List.take_length] at this
               have HD:Hid (Dg D∧D.length≤952∧0 < D.length):=by
                refine ⟨⟨fun c hc=>?_,?_,?_⟩,?_,?_⟩
                ·rw [← hD] at hc;exact HS.out.2.2.1 c (by simpa using strip_mem _ c hc)
                ·rw [← hD,hr8];simp
                ·rw [← hD,strip_head (l:=S.reverse) (c:=c9) (by rw [hr8];simp) (by rw [hrv];rfl)];exact HS.out.2.1
                ·rw [← hD];have:=strip_le S.reverse;rw [List.length_reverse] at this;have:=HS.out.2.2.2;omega
                ·rw [← hD,hr8];simp
               have HDV:Hid (D.length≤S.length∧beV D * 10 ^ (S.length - D.length)=m * 2 ^ ee.toNat * 5 ^ (-ee).toNat):=Lib.hid (by
                have h1:=beV_strip S.reverse
                have h2:=strip_le S.reverse
                rw [hD,List.length_reverse] at h1 h2
                refine ⟨h2,?_⟩
                rw [h1,← HSV.out]
                unfold beV
                rw [List.reverse_reverse])
               clear hD hSe hrv hr8 hc8 hod hos hsp hB hpS
               go_wp2_with fail
               go_loopw [13] (fun o wr=>Hid (Ex8 w D o wr)) (fun o _=>match o with|.slice _ n _=>n|_=>0)
               case atStart=>exact H8
               case round=>
                obtain ⟨bs,hS,hbl,hob,hB⟩:=hrel
                have hb0:0 < bs.length:=by
                 have:=strip_le bs
                 rw [hS] at this
                 have:=HD.out.2.2
                 omega
                obtain ⟨g,cap,rfl,hBg,hgw⟩:=hob.form hb0
                obtain ⟨n,hn⟩:∃ n,bs.length=n+1:=⟨bs.length - 1,by omega⟩
                have hncap:n+1≤cap:=by
                 rcases hob.2 with ⟨h,_⟩|⟨_,_,_,h,_,_,h2,_⟩
                 ·simp at h
                 ·simp only [Value.slice.injEq] at h
                  omega
                rw [hn] at hob hbl
                rw [hn]
                have hc:=hob.cell (j:=n) (by omega)
                have hiff:=bAt_48 hn
                have hne:bs≠[]:=by rintro rfl;simp at hb0
                obtain ⟨y,hy⟩:∃ y,bAt bs n=y:=⟨_,rfl⟩
                rw [hy] at hc hiff
                have hy9:y < 256:=by rw [← hy];exact bAt_lt _ _
                have HP:Hid (y=48→Ex8 w D (.slice (some ⟨g,0,none⟩) n cap) wr):=fun h=>⟨bs.take n,by rw [← hS,strip_dropLast hne (hiff.1 h),hn,Nat.add_sub_cancel],by simp;omega,hob.take (by omega),hB⟩
                have HQ:Hid (y≠48→OwnB wr w.heap.size (.slice (some ⟨g,0,none⟩) (n+1) cap) D):=fun h=>by
                 have e:bs=D:=by rw [← hS,strip_stop hne (fun e=>h (hiff.2 e))]
                 rw [← e];exact hob
                have HLN:Hid (y≠48→n+1=D.length):=fun h=>by
                 have e:bs=D:=by rw [← hS,strip_stop hne (fun e=>h (hiff.2 e))]
                 rw [← e,hn]
                have HB:=Lib.hid hB
                have hn9:n≤960:=by omega
                clear hS hbl hob hb0 hn hiff hne hy hB hBg hgw
                obtain ⟨C,hC⟩:∃ C,C=decide (y=48):=⟨_,rfl⟩
                go_upto_region 36 with fail
                go_cut [140] from 129 to 145 (fun p W=>p=.bool C∧W=wr)
                case first=>
                 by_cases hy0:y=48
                 ·subst hy0
                  have hc9:C=true:=by rw [hC];simp
                  clear hC
                  go_wp2_with fail
                  go_meet
                  case rel=>exact ⟨by rw [hc9],rfl⟩
                 ·have d0:((y:Int) == 48)=false:=by simp;omega
                  have hc9:C=false:=by rw [hC];simp [hy0]
                  clear hC hy0
                  go_wp2_with fail
                  go_meet
                  case rel=>exact ⟨by rw [hc9],rfl⟩
                obtain ⟨rfl,rfl⟩:=hcut
                clear hc
                cases C with
                | true=>
                 have hy0:y=48:=of_decide_eq_true hC.symm
                 have HP:=Lib.hid (HP.out hy0)
                 clear hC hy0
                 go_wp2_with fail
                 go_roundw
                 case rel=>exact HP
                 case measure=>simp
                | false=>
                have hy0:y≠48:=of_decide_eq_false hC.symm
                have HO:=Lib.hid (HQ.out hy0)
                have HLN:=HLN.out hy0
                clear HP HQ hC hy0
                obtain ⟨a9,cc9,ea9,hr9⟩:=HO.out.reads
                simp only [Value.slice.injEq] at ea9
                obtain ⟨rfl,-,rfl⟩:=ea9
                rw [← HLN] at hr9
                have hcv:=conv_str hr9 cap
                have HDD:=Lib.hid (show (txt D).size≤960 by rw [txt_size];have:=HD.out.2.1;omega)
                clear HLN hr9
                go_wp2_with fail
                refine bodyPost_ret (v:=.tuple #[.string (txt D),.int .i64 zx]) (by simp [results,Tryz.results101,go_sem, *]) rfl ?_
                exact ⟨⟨_,_,rfl,HD.out.1,HDD.out,hzx1,hzx2,_,HZX.out,HDV.out.1,HDV.out.2⟩,HB.out⟩
def MoR (wr:World) (g n:Nat) (bs:List UInt8):Prop:=
 RdB wr (some ⟨g,0,none⟩) n bs∧∀ j,j < n→wr.frozen? ⟨g,j,none⟩=false
theorem MoR.cell {wr:World} {g n:Nat} {bs:List UInt8} (h:MoR wr g n bs) {j:Nat} (hj:j < n):wr.cell? ⟨g,j,none⟩=some (.int .u8 (bAt bs j:Nat)):=by
 obtain ⟨b,o,ha,hc⟩:=h.1.at j hj
 simp only [Option.some.injEq,Addr.mk.injEq,and_true] at ha
 obtain ⟨rfl,rfl⟩:=ha
 rw [Nat.zero_add] at hc
 exact hc
theorem bAt_set (bs:List UInt8) (i j y:Nat) (hy:y < 256) (hi:i < bs.length):bAt (bs.set i (UInt8.ofNat y)) j=if i=j then y else bAt bs j:=by
 unfold bAt
 simp only [List.getD_eq_getElem?_getD,List.getElem?_set]
 by_cases h:i=j
 ·subst h
  simp [hi,Nat.mod_eq_of_lt hy]
 ·simp [h]
theorem MoR.store {wr:World} {g n:Nat} {bs:List UInt8} (h:MoR wr g n bs) {i y:Nat} (hi:i < n) (hy:y < 256):MoR (wr.setCell ⟨g,i,none⟩ (.int .u8 (y:Nat))) g n (bs.set i (UInt8.ofNat y)):=by
 have hc:=h.cell hi
 refine ⟨⟨by rw [List.length_set];exact h.1.1,h.1.2.1,fun j hj=>⟨g,0,rfl,?_⟩⟩,fun j hj=>by rw [World.frozen?_setCell];exact h.2 j hj⟩
 rw [Nat.zero_add]
 show _=some (Value.int .u8 ((bAt (bs.set i (UInt8.ofNat y)) j:Nat):Int))
 rw [bAt_set bs i j y hy (by rw [h.1.1];exact hi)]
 by_cases e:i=j
 ·subst e
  rw [if_pos rfl]
  exact World.cell?_setCell_same _ _ _ hc
 ·rw [if_neg e]
  exact (World.cell?_setCell_other wr ⟨g,i,none⟩ ⟨g,j,none⟩ _ (by simp [e])).trans (h.cell hj)
theorem set_take {bs:List UInt8} {i:Nat} {y:UInt8}:(bs.set i y).take i=bs.take i:=by rw [List.take_set];rw [List.set_eq_of_length_le];simp;omega
def MoRel (w:World) (g n:Nat) (d:List UInt8) (i:Value) (wr:World):Prop:=
 ∃ (k:Nat) (bs:List UInt8),((∃ k',k=k'+1∧i=.int .i64 (k':Nat))∨(k=0∧i=.int .i64 (-1)))∧k≤n∧bs.take k=d.take k∧MoR wr g n bs∧Below w.heap.size w wr
theorem dg_more {d bs:List UInt8} {k y:Nat} (hd:Dg d) (hk:k < d.length) (ht:bs.take (k+1)=d.take (k+1)) (hl:bs.length=d.length) (hy:bAt bs k=y) (h9:y≠57) :
  Dg ((bs.set k (UInt8.ofNat (y+1))).take (k+1))∧y+1 < 256:=by
 have hkb:k < bs.length:=by omega
 have e1:bs[k] ∈ d:=by
  have:bs[k]=d[k]:=by
   have h1:=congrArg (fun l=>l[k]?) ht
   simp only [List.getElem?_take,Nat.lt_succ_self,if_true] at h1
   rw [List.getElem?_eq_getElem hkb,List.getElem?_eq_getElem hk] at h1
   exact Option.some.inj h1
  rw [this];exact List.getElem_mem _
 have hdig:=hd.1 _ e1
 have hyb:(bs[k]).toNat=y:=by rw [← hy];unfold bAt;simp [List.getD_eq_getElem?_getD,List.getElem?_eq_getElem hkb]
 simp only [dig,Bool.and_eq_true,decide_eq_true_eq,hyb] at hdig
 have hy1:(UInt8.ofNat (y+1)).toNat=y+1:=by simp;omega
 have e2:(bs.set k (UInt8.ofNat (y+1))).take (k+1)=d.take k++[UInt8.ofNat (y+1)]:=by
  rw [List.take_succ_eq_append_getElem (by rw [List.length_set];exact hkb),set_take]
  congr 1
  ·have:=congrArg (fun l=>l.take k) ht
   simpa [List.take_take] using this
  ·simp
 refine ⟨?_,by omega⟩
 rw [e2]
 refine ⟨fun c hc=>?_,by simp,?_⟩
 ·rcases List.mem_append.1 hc with h|h
  ·exact hd.1 c (List.mem_of_mem_take h)
  ·obtain rfl:c=UInt8.ofNat (y+1):=by simpa using h
   simp only [dig,hy1,Bool.and_eq_true,decide_eq_true_eq];omega
 ·cases k with
  | zero=>
   intro h
   have:UInt8.ofNat (y+1)=48:=by simpa using h
   have:=congrArg UInt8.toNat this
   rw [hy1] at this
   have:(48:UInt8).toNat=48:=rfl
   omega
  | succ k=>
   obtain ⟨c,r,hcr⟩:∃ c r,d=c::r:=by cases d with|nil=>simp at hk|cons c r=>exact ⟨c,r,rfl⟩
   have:=hd.2.2
   rw [hcr] at this ⊢
   simpa using this
set_option maxRecDepth 100000 in
set_option maxHeartbeats 8000000 in
theorem more_calls (d:ByteArray) (hd:Dg (sl d)) (hn:d.size≤960) (x:Int) (hx1:-1200≤x) (hx2:x≤1100) (w:World) :
  Calls Tryz.prog 102 #[.string d,.int .i64 x] w fun e w'=>(∃ (b:ByteArray) (z:Int),e=.returned (.tuple #[.string b,.int .i64 z])∧Dg (sl b)∧b.size≤d.size∧x≤z∧z≤x+1)∧Below w.heap.size w w':=by
 obtain ⟨cap,w1,hr,hb1,hgw,hrd,hcap,hfz⟩:=conv_bytes w d (by omega)
 obtain ⟨n,hnd⟩:∃ n,d.size=n+1:=⟨d.size - 1,by have h1:=hd.2.1;have h2:=sl_len d;have:0 < (sl d).length:=List.length_pos_iff.2 h1;omega⟩
 have hsl:=sl_len d
 rw [hnd] at hr hrd hcap hfz hsl
 obtain ⟨L,hL⟩:∃ L,sl d=L:=⟨_,rfl⟩
 rw [hL] at hd hrd hsl
 have H0:Hid (MoRel w w.heap.size (n+1) L (.int .i64 (n:Nat)) w1):=⟨n+1,L,.inl ⟨n,rfl,rfl⟩,by omega,rfl,⟨hrd,hfz⟩,hb1⟩
 have HD:=Lib.hid hd
 have HN:=Lib.hid hnd
 have HSL:=Lib.hid hsl
 have s1:IntKind.i64.wrap (x+1)=x+1:=IntWalk.i64_in _ (by omega)
 have hn9:n≤960:=by omega
 obtain ⟨g,hg⟩:∃ g,g=w.heap.size:=⟨_,rfl⟩
 rw [← hg] at hr H0
 have HG:=Lib.hid hg
 clear hb1 hgw hrd hfz hnd hsl hd hL hn hg
 go_enter Tryz.func102,Tryz.ntmps102
 go_wp2_with fail
 go_loopw [7] (fun i wr=>Hid (MoRel w g (n+1) L i wr)) (fun i _=>(intOf i+1).toNat)
 case atStart=>exact H0
 case round=>
  obtain ⟨k,bs,hik,hk,ht,hM,hB⟩:=hrel
  rcases hik with ⟨k,rfl,rfl⟩|⟨rfl,rfl⟩
  ·have hkn:k < n+1:=by omega
   have hc:=hM.cell hkn
   have hf:=hM.2 k hkn
   obtain ⟨y,hy⟩:∃ y,bAt bs k=y:=⟨_,rfl⟩
   have hy9:y < 256:=by rw [← hy];exact bAt_lt _ _
   rw [hy] at hc
   have hbl:bs.length=L.length:=by rw [hM.1.1,HSL.out]
   by_cases h9:y=57
   ·have HN2:∀ i,((∃ k',k=k'+1∧i=.int .i64 (k':Nat))∨(k=0∧i=.int .i64 (-1)))→Hid (MoRel w g (n+1) L i (wr.setCell ⟨g,k,none⟩ (.int .u8 48))):=fun i hi=>by
     refine ⟨k,bs.set k (UInt8.ofNat 48),hi,Nat.le_of_lt hkn,?_,hM.store (y:=48) hkn (by decide),(Chg.of_below (S:=fun j=>w.heap.size≤j) hB).setCell (fun _=>by rw [← HG.out];exact Nat.le_refl _) _ |>.below (Nat.le_refl _) (fun _ h=>h)⟩
     rw [set_take]
     have:=congrArg (fun l=>l.take k) ht
     simpa [List.take_take] using this
    have hkz:k=0∨∃ k',k=k'+1:=by cases k with|zero=>exact .inl rfl|succ k'=>exact .inr ⟨k',rfl⟩
    subst h9
    clear hM hB ht hy hbl
    rcases hkz with rfl|⟨k',rfl⟩
    ·have HN2:=HN2 (.int .i64 (-1)) (.inr ⟨rfl,rfl⟩)
     go_wp2_with fail
     go_roundw
     case rel=>exact HN2
     case measure=>simp [intOf]
    ·have HN2:=HN2 (.int .i64 (k':Nat)) (.inl ⟨k',rfl,rfl⟩)
     go_wp2_with fail
     go_roundw
     case rel=>exact HN2
     case measure=>simp [intOf];omega
   ·have d0:((y:Int) == 57)=false:=by simp;omega
    obtain ⟨hdg,hy1⟩:=dg_more HD.out (by rw [HSL.out];exact hkn) ht hbl hy h9
    have s2:IntKind.u8.wrap ((y:Int)+1)=((y+1:Nat):Int):=by rw [IntKind.wrap_u8];omega
    obtain ⟨y2,hy2⟩:∃ y2,y2=y+1:=⟨_,rfl⟩
    rw [← hy2] at hdg hy1 s2
    have hM2:=hM.store hkn hy1
    have hlen:bs.length=n+1:=by rw [hM.1.1]
    have hr2:=rd_take hM2.1 (k+1) (by omega)
    have hcv:=conv_str hr2 cap
    have hB2:Below w.heap.size w (wr.setCell ⟨g,k,none⟩ (.int .u8 (y2:Nat))):=(Chg.of_below (S:=fun j=>w.heap.size≤j) hB).setCell (fun _=>by rw [← HG.out];exact Nat.le_refl _) _ |>.below (Nat.le_refl _) (fun _ h=>h)
    have HB2:=Lib.hid hB2
    obtain ⟨R,hR⟩:∃ R,R=txt ((bs.set k (UInt8.ofNat y2)).take (k+1)):=⟨_,rfl⟩
    have HR:Hid (Dg (sl R)∧R.size≤d.size):=by
     refine ⟨by rw [hR,sl_txt];exact hdg,?_⟩
     rw [hR,txt_size,HN.out,List.length_take,List.length_set,hlen];omega
    rw [← hR] at hcv
    clear hM hB ht hy hbl hdg hy1 hM2 hlen hr2 hB2 hR hy2
    go_wp2_with fail
    refine bodyPost_ret (v:=.tuple #[.string R,.int .i64 x]) (by simp [results,Tryz.results102,go_sem, *]) rfl ?_
    exact ⟨⟨R,x,rfl,HR.out.1,HR.out.2,by omega,by omega⟩,HB2.out⟩
  ·have HB:=Lib.hid hB
   clear hM hB ht
   go_wp2_with fail
   refine bodyPost_ret (v:=.tuple #[.string ⟨#[49]⟩,.int .i64 (x+1)]) (by simp [results,Tryz.results102,go_sem, *]) rfl ?_
   refine ⟨⟨_,x+1,rfl,⟨fun c hc=>?_,?_,?_⟩,?_,by omega,by omega⟩,HB.out⟩
   ·have:c=49:=by simpa [sl] using hc
    subst this;rfl
   ·simp [sl]
   ·simp [sl]
   ·rw [HN.out];show 1≤_;omega
def splK (b:Nat):Nat × Bool × Nat × Int:=
 if b / 4503599627370496 % 2048=0∧b % 4503599627370496=0 then (1,b / 9223372036854775808 == 1,0,0)
 else if b / 4503599627370496 % 2048=2047∧b % 4503599627370496=0 then (3,b / 9223372036854775808 == 1,0,0)
 else if b / 4503599627370496 % 2048=2047 then (4,b / 9223372036854775808 == 1,0,0)
 else if b / 4503599627370496 % 2048=0 then (2,b / 9223372036854775808 == 1,b % 4503599627370496,-1074)
 else (2,b / 9223372036854775808 == 1,4503599627370496+b % 4503599627370496,((b / 4503599627370496 % 2048:Nat):Int) - 1075)
set_option maxRecDepth 100000 in
set_option maxHeartbeats 4000000 in
theorem rsplit_calls (b:Nat) (hb:b < 18446744073709551616) (w:World):Calls Tryz.prog 91 #[.int .u64 (b:Nat)] w fun e w'=>e=.returned (.tuple #[.int .i64 ((splK b).1:Nat),.bool (splK b).2.1,.int .u64 ((splK b).2.2.1:Nat),.int .i64 (splK b).2.2.2])∧w=w':=by
 have hx:bits BinOp.and IntKind.u64 ((b:Int) / 4503599627370496) 2047=((b / 4503599627370496 % 2048:Nat):Int):=by
  rw [show ((b:Int) / 4503599627370496)=((b / 4503599627370496:Nat):Int) by omega]
  have:=u64_and_nat (b / 4503599627370496) 2047 (by omega) (by omega)
  rw [show (2047:Nat)=2 ^ 11 - 1 from rfl,Nat.and_two_pow_sub_one_eq_mod] at this
  exact this
 have hf:bits BinOp.and IntKind.u64 (b:Int) 4503599627370495=((b % 4503599627370496:Nat):Int):=by
  have:=u64_and_nat b 4503599627370495 (by omega) (by omega)
  rw [show (4503599627370495:Nat)=2 ^ 52 - 1 from rfl,Nat.and_two_pow_sub_one_eq_mod] at this
  exact this
 have hg:((b:Int) / 9223372036854775808 == 1)=(b / 9223372036854775808 == 1):=by
  rw [show ((b:Int) / 9223372036854775808)=((b / 9223372036854775808:Nat):Int) by omega]
  rcases (by omega:b / 9223372036854775808=0∨b / 9223372036854775808=1) with h|h<;>rw [h]<;>rfl
 obtain ⟨S,hS⟩:∃ S,splK b=S:=⟨_,rfl⟩
 rw [hS]
 unfold splK at hS
 obtain ⟨ng,hng⟩:∃ g,(b / 9223372036854775808 == 1)=g:=⟨_,rfl⟩
 obtain ⟨x,hxx⟩:∃ x,b / 4503599627370496 % 2048=x:=⟨_,rfl⟩
 obtain ⟨f,hff⟩:∃ f,b % 4503599627370496=f:=⟨_,rfl⟩
 rw [hng] at hg hS
 rw [hxx] at hx hS
 rw [hff] at hf hS
 have hx2:x < 2048:=by omega
 have hf2:f < 4503599627370496:=by omega
 have w0:wrap64 (x:Int)=(x:Int):=by unfold wrap64;omega
 have w1:IntKind.u64.wrap (4503599627370496+(f:Int))=((4503599627370496+f:Nat):Int):=by rw [IntKind.wrap_u64];omega
 have w2:wrap64 ((x:Int) - 1075)=(x:Int) - 1075:=by unfold wrap64;omega
 clear hng hxx hff
 by_cases hf0:f=0
 ·subst hf0
  by_cases hx0:x=0
  ·subst hx0
   obtain rfl:S=(1,ng,0,0):=by simpa using hS.symm
   go_enter Tryz.func91,Tryz.ntmps91
   go_wp2_with fail
   refine bodyPost_ret (v:=.tuple #[.int .i64 1,.bool ng,.int .u64 0,.int .i64 0]) (by simp [results,Tryz.results91,go_sem, *]) rfl ⟨rfl,rfl⟩
  by_cases hx7:x=2047
  ·subst hx7
   obtain rfl:S=(3,ng,0,0):=by simpa using hS.symm
   go_enter Tryz.func91,Tryz.ntmps91
   go_wp2_with fail
   refine bodyPost_ret (v:=.tuple #[.int .i64 3,.bool ng,.int .u64 0,.int .i64 0]) (by simp [results,Tryz.results91,go_sem, *]) rfl ⟨rfl,rfl⟩
  obtain rfl:S=(2,ng,4503599627370496,(x:Int) - 1075):=by simpa [hx0,hx7] using hS.symm
  have d0:((x:Int) == 0)=false:=by simp;omega
  have d7:((x:Int) == 2047)=false:=by simp;omega
  go_enter Tryz.func91,Tryz.ntmps91
  go_wp2_with fail
  refine bodyPost_ret (v:=.tuple #[.int .i64 2,.bool ng,.int .u64 ((4503599627370496:Nat):Int),.int .i64 ((x:Int) - 1075)]) (by simp [results,Tryz.results91,go_sem, *]) rfl ⟨rfl,rfl⟩
 ·have df:((f:Int) == 0)=false:=by simp;omega
  by_cases hx0:x=0
  ·subst hx0
   obtain rfl:S=(2,ng,f,-1074):=by simpa [hf0] using hS.symm
   go_enter Tryz.func91,Tryz.ntmps91
   go_wp2_with fail
   refine bodyPost_ret (v:=.tuple #[.int .i64 2,.bool ng,.int .u64 (f:Nat),.int .i64 (-1074)]) (by simp [results,Tryz.results91,go_sem, *]) rfl ⟨rfl,rfl⟩
  by_cases hx7:x=2047
  ·subst hx7
   obtain rfl:S=(4,ng,0,0):=by simpa [hf0] using hS.symm
   go_enter Tryz.func91,Tryz.ntmps91
   go_wp2_with fail
   refine bodyPost_ret (v:=.tuple #[.int .i64 4,.bool ng,.int .u64 0,.int .i64 0]) (by simp [results,Tryz.results91,go_sem, *]) rfl ⟨rfl,rfl⟩
  obtain rfl:S=(2,ng,4503599627370496+f,(x:Int) - 1075):=by simpa [hx0,hx7,hf0] using hS.symm
  have d0:((x:Int) == 0)=false:=by simp;omega
  have d7:((x:Int) == 2047)=false:=by simp;omega
  go_enter Tryz.func91,Tryz.ntmps91
  go_wp2_with fail
  refine bodyPost_ret (v:=.tuple #[.int .i64 2,.bool ng,.int .u64 ((4503599627370496+f:Nat):Int),.int .i64 ((x:Int) - 1075)]) (by simp [results,Tryz.results91,go_sem, *]) rfl ⟨rfl,rfl⟩
theorem ExV.rv {K N3:Nat} (hK:K=1100) (hN:N3=3000) {m:Nat} {ee:Int} {d:List UInt8} {x:Int} (h:ExV m ee d x) (he:-1080≤ee):RV d x * 2 ^ K=m * 2 ^ (ee+K).toNat * 10 ^ N3:=by
 obtain ⟨L,hx,hl,hv⟩:=h
 rw [RV_at (N:=L) hl (by omega),hv]
 by_cases h0:0≤ee
 ·rw [show (x - L+3000).toNat=N3 by omega,show (-ee).toNat=0 by omega,show (ee+K).toNat=ee.toNat+K by omega,Nat.pow_add,Nat.pow_zero,Nat.mul_one]
  ac_rfl
 ·obtain ⟨j,hj⟩:∃ j:Nat,ee=-(j:Int):=⟨(-ee).toNat,by omega⟩
  have hj1:j≤1080:=by omega
  have e1:(2:Nat) ^ K=2 ^ j * 2 ^ (K - j):=by rw [← Nat.pow_add];congr 1;omega
  have e2:(10:Nat) ^ N3=5 ^ j * 2 ^ j * 10 ^ (N3 - j):=by
   rw [← Nat.mul_pow,show 5 * 2=10 from rfl,← Nat.pow_add];congr 1;omega
  rw [show (x - L+3000).toNat=N3 - j by omega,show (-ee).toNat=j by omega,show (ee+K).toNat=K - j by omega,show ee.toNat=0 by omega,Nat.pow_zero,Nat.mul_one,e1,e2]
  ac_rfl
def Gap (m:Nat) (ee:Int) (m2:Nat) (e3:Int):Prop:=(m2+1=m∧e3=ee)∨(m=4503599627370496∧m2=9007199254740991∧e3=ee - 1)
theorem eighteen {D Lo Hi Z:List UInt8} {x zl zh:Int} {m m2:Nat} {ee e3:Int} (hD:Dg D) (hL:Dg Lo) (hH:Dg Hi) (hZ:Dg Z) (lD:D.length≤960) (lL:Lo.length≤960) (lH:Hi.length≤960)
  (bx:-1100≤x) (bl:-1100≤zl) (bh:-1100≤zh) (vD:ExV m ee D x) (vL:ExV (2 * m2+1) (e3 - 1) Lo zl) (vH:ExV (2 * m+1) (ee - 1) Hi zh) (hg:Gap m ee m2 e3) (hm0:0 < m) (hm:m < 9007199254740992) (he:-1074≤ee) (h18:18 < D.length) (hZ2:Z=strip (D.take 18)) :
  cmpR Z x Lo zl=1∧cmpR Z x Hi zh=-1:=by
 have he3:-1075≤e3:=by rcases hg with ⟨_,rfl⟩|⟨_,_,rfl⟩<;>omega
 obtain ⟨K,hK⟩:∃ K,K=1100:=⟨_,rfl⟩
 obtain ⟨N3,hN⟩:∃ K,K=3000:=⟨_,rfl⟩
 have a1:=vD.rv hK hN (by omega)
 have a2:=vL.rv hK hN (by omega)
 have a3:=vH.rv hK hN (by omega)
 have hl18:(D.take 18).length=18:=by simp;omega
 have lZ:Z.length≤18:=by rw [hZ2];have:=strip_le (D.take 18);omega
 have r1:RV Z x=RV (D.take 18) x:=by rw [hZ2];exact RV_strip (by rw [hl18];omega)
 obtain ⟨r2,r3⟩:=RV_take (d:=D) (x:=x) (n:=18) hD.1 (by omega) (by omega)
 have r4:=RV_ge (d:=D) (x:=x) hD.1 hD.2.1 hD.2.2 (by omega)
 have e17:(10:Nat) ^ (x - 1+3000).toNat=10 ^ (x - (18:Nat)+3000).toNat * 100000000000000000:=by
  rw [show (100000000000000000:Nat)=10 ^ 17 by decide,← Nat.pow_add];congr 1;omega
 obtain ⟨E,hE⟩:∃ E,E=(ee - 2+K).toNat:=⟨_,rfl⟩
 have p1:(2:Nat) ^ (ee+K).toNat=2 ^ E * 4:=by rw [show (4:Nat)=2 ^ 2 by decide,← Nat.pow_add];congr 1;omega
 have p2:(2:Nat) ^ (ee - 1+K).toNat=2 ^ E * 2:=by rw [← Nat.pow_succ];congr 1;omega
 have hP:0 < (2:Nat) ^ K:=Nat.pow_pos (by omega)
 have hG:0 < 2 ^ E * (10:Nat) ^ N3:=Nat.mul_pos (Nat.pow_pos (by omega)) (Nat.pow_pos (by omega))
 rw [p1] at a1
 rw [p2] at a3
 have b2:RV Lo zl * 2 ^ K+2 ^ E * 10 ^ N3≤4 * m * (2 ^ E * 10 ^ N3):=by
  rcases hg with ⟨h1,rfl⟩|⟨h1,h2,rfl⟩
  ·rw [a2,p2]
   generalize (10:Nat) ^ N3=T
   have e:(2 * m2+1) * (2 ^ E * 2) * T=(4 * m2+2) * (2 ^ E * T):=by
    rw [show 4 * m2+2=(2 * m2+1) * 2 by omega];ac_rfl
   rw [e,← h1]
   generalize 2 ^ E * T=G
   have:4 * (m2+1) * G=(4 * m2+2) * G+2 * G:=by rw [← Nat.add_mul];congr 1
   omega
  ·rw [a2,show (ee - 1 - 1+K).toNat=E by omega,h2,h1]
   generalize (10:Nat) ^ N3=T
   rw [Nat.mul_assoc]
   generalize 2 ^ E * T=G
   omega
 have b1:RV D x * 2 ^ K=4 * m * (2 ^ E * 10 ^ N3):=by
  rw [a1]
  generalize (10:Nat) ^ N3=T
  ac_rfl
 have b3:RV Hi zh * 2 ^ K=(4 * m+2) * (2 ^ E * 10 ^ N3):=by
  rw [a3,show 4 * m+2=(2 * m+1) * 2 by omega]
  generalize (10:Nat) ^ N3=T
  ac_rfl
 have k1:=key_low hP hG b1 b2 hm (C:=RV Z x) (u:=10 ^ (x - (18:Nat)+3000).toNat) (by rw [r1];exact r3) (by rw [← e17];exact r4)
 have k2:=key_high hP hG b1 b3
 exact ⟨cmp_gt hZ.1 hL.1 hL.2.1 hL.2.2 (by omega) lL (by omega) (by omega) k1,cmp_lt hZ.1 hH.1 hZ.2.1 hZ.2.2 (by omega) lH (by omega) (by omega) (by rw [r1];omega)⟩
def withR (p:Nat) (x y:Int):Bool:=if p % 2=0 then decide (0≤x) && decide (y≤0) else decide (0 < x) && decide (y < 0)
theorem with_yes (p:Nat):withR p 1 (-1)=true:=by unfold withR;split<;>decide
set_option maxRecDepth 10000 in
theorem split_gap (b p:Nat) (hb:b < 18446744073709551616) (h:(splK b).1=2) (hp:p=b % 9223372036854775808) :
  Gap (splK b).2.2.1 (splK b).2.2.2 (splK (p - 1)).2.2.1 (if p=1 then -1074 else (splK (p - 1)).2.2.2):=by
 unfold Gap
 unfold splK at h ⊢
 split at h
 ·simp at h
 ·split at h
  ·simp at h
  ·split at h
   ·simp at h
   ·rename_i h1 h2 h3
    rw [if_neg h1,if_neg h2,if_neg h3]
    by_cases hp1:p=1
    ·subst hp1
     rw [if_pos rfl]
     have hbm:b % 4503599627370496=1∧b / 4503599627370496 % 2048=0:=by omega
     rw [if_pos hbm.2]
     left
     simp only [hbm.1]
     exact ⟨by decide,by simp⟩
    ·rw [if_neg hp1]
     obtain ⟨u,hu⟩:∃ u,u=b / 4503599627370496 % 2048:=⟨_,rfl⟩
     obtain ⟨v,hv⟩:∃ v,v=b % 4503599627370496:=⟨_,rfl⟩
     rw [← hu] at h1 h2 h3 ⊢
     rw [← hv] at h1 h2 ⊢
     have hpv:p=u * 4503599627370496+v:=by omega
     have hv9:v < 4503599627370496:=by omega
     have hu9:u < 2047:=by omega
     by_cases hv0:v=0
     ·have q1:(p - 1) / 4503599627370496 % 2048=u - 1:=by omega
      have q2:(p - 1) % 4503599627370496=4503599627370495:=by omega
      rw [q1,q2,if_neg (by omega),if_neg (by omega),if_neg (by omega)]
      by_cases hu1:u=1
      ·rw [if_pos (by omega),if_neg (by omega)]
       left
       subst hu1 hv0
       exact ⟨rfl,rfl⟩
      ·rw [if_neg (by omega),if_neg (by omega)]
       right
       dsimp only
       omega
     ·have q1:(p - 1) / 4503599627370496 % 2048=u:=by omega
      have q2:(p - 1) % 4503599627370496=v - 1:=by omega
      rw [q1,q2]
      by_cases hu0:u=0
      ·rw [if_neg (by omega),if_neg (by omega),if_neg (by omega),if_pos hu0,if_pos hu0]
       left
       dsimp only
       omega
      ·rw [if_neg (by omega),if_neg (by omega),if_neg (by omega),if_neg hu0,if_neg hu0]
       left
       dsimp only
       omega
theorem sl_eq_toList (a:ByteArray):sl a=a.toList:=by rw [ByteArray.toList_eq];rfl
set_option maxRecDepth 100000 in
set_option maxHeartbeats 4000000 in
theorem cmpDec_calls (a b:ByteArray) (x y:Int) (w:World):Calls Tryz.prog 104 #[.string a,.int .i64 x,.string b,.int .i64 y] w fun e w'=>e=.returned (.int .i64 (cmpR (sl a) x (sl b) y))∧w=w':=by
 by_cases hxy:x < y
 ·have HE:Hid (cmpR (sl a) x (sl b) y=-1):=Lib.hid (by unfold cmpR;rw [if_pos (.inl hxy)])
  go_enter Tryz.func104,Tryz.ntmps104
  go_wp2_with fail
  go_ret
  exact ⟨by rw [HE.out];rfl,rfl⟩
 ·have d1:decide (x < y)=false:=by simp;omega
  by_cases hxe:x=y
  ·subst hxe
   obtain ⟨L,hL⟩:∃ L,L=Op.bytesLess a.toList b.toList:=⟨_,rfl⟩
   obtain ⟨E,hE⟩:∃ E,E=(a.toList == b.toList):=⟨_,rfl⟩
   have HE:Hid (cmpR (sl a) x (sl b) x=if L=true then -1 else if E=true then 0 else 1):=Lib.hid (by
    unfold cmpR
    rw [sl_eq_toList,sl_eq_toList,← hL,hE]
    simp)
   have hl2:Op.bytesLess a.toList b.toList=L:=hL.symm
   have he2:(a.toList == b.toList)=E:=hE.symm
   clear hL hE d1 hxy
   cases L with
   | true=>
    go_enter Tryz.func104,Tryz.ntmps104
    go_wp2_with fail
    go_ret
    exact ⟨by rw [HE.out];rfl,rfl⟩
   | false=>
    cases E with
    | true=>
     go_enter Tryz.func104,Tryz.ntmps104
     go_wp2_with fail
     go_ret
     exact ⟨by rw [HE.out];rfl,rfl⟩
    | false=>
     go_enter Tryz.func104,Tryz.ntmps104
     go_wp2_with fail
     go_ret
     exact ⟨by rw [HE.out];rfl,rfl⟩
  ·have d2:(x == y)=false:=by simp [hxe]
   have HE:Hid (cmpR (sl a) x (sl b) y=1):=Lib.hid (by unfold cmpR;rw [if_neg (by rintro (h | ⟨h,-⟩);exact hxy h;exact hxe h),if_neg (fun h=>hxe h.1)])
   go_enter Tryz.func104,Tryz.ntmps104
   go_wp2_with fail
   go_ret
   exact ⟨by rw [HE.out];rfl,rfl⟩
set_option maxRecDepth 100000 in
set_option maxHeartbeats 4000000 in
theorem within_calls (p:Nat) (x y:Int) (w:World):Calls Tryz.prog 103 #[.int .u64 (p:Nat),.int .i64 x,.int .i64 y] w fun e w'=>e=.returned (.bool (withR p x y))∧w=w':=by
 have hr:(p:Int).tmod 2=((p % 2:Nat):Int):=by rw [Int.tmod_eq_emod_of_nonneg (by omega)];omega
 have hp:p % 2=0∨p % 2=1:=by omega
 have HW:Hid (withR p x y=if p % 2=0 then decide (0≤x) && decide (y≤0) else decide (0 < x) && decide (y < 0)):=Lib.hid rfl
 generalize withR p x y=R at HW ⊢
 generalize p % 2=m at hr hp HW
 rcases hp with rfl|rfl
 ·have HW2:Hid (R=(decide (0≤x) && decide (y≤0))):=Lib.hid (by rw [HW.out];rfl)
  clear HW
  by_cases h:0≤x
  ·have d:decide (0≤x)=true:=by simp;omega
   obtain ⟨B,hB⟩:∃ B,B=decide (y≤0):=⟨_,rfl⟩
   have hB2:decide (y≤0)=B:=hB.symm
   have HR:Hid (R=B):=Lib.hid (by rw [HW2.out,d,hB];rfl)
   clear hB h
   go_enter Tryz.func103,Tryz.ntmps103
   go_wp2_with fail
   go_ret
   exact ⟨by rw [HR.out];rfl,rfl⟩
  ·have d:decide (0≤x)=false:=by simp;omega
   have HR:Hid (R=false):=Lib.hid (by rw [HW2.out,d];rfl)
   go_enter Tryz.func103,Tryz.ntmps103
   go_wp2_with fail
   go_ret
   exact ⟨by rw [HR.out];rfl,rfl⟩
 ·have HW2:Hid (R=(decide (0 < x) && decide (y < 0))):=Lib.hid (by rw [HW.out];rfl)
  clear HW
  by_cases h:0 < x
  ·have d:decide (0 < x)=true:=by simp;omega
   obtain ⟨B,hB⟩:∃ B,B=decide (y < 0):=⟨_,rfl⟩
   have hB2:decide (y < 0)=B:=hB.symm
   have HR:Hid (R=B):=Lib.hid (by rw [HW2.out,d,hB];rfl)
   clear hB h
   go_enter Tryz.func103,Tryz.ntmps103
   go_wp2_with fail
   go_ret
   exact ⟨by rw [HR.out];rfl,rfl⟩
  ·have d:decide (0 < x)=false:=by simp;omega
   have HR:Hid (R=false):=Lib.hid (by rw [HW2.out,d];rfl)
   go_enter Tryz.func103,Tryz.ntmps103
   go_wp2_with fail
   go_ret
   exact ⟨by rw [HR.out];rfl,rfl⟩
end Go.Proofs.YtmooaepbdmengaaGreatDoor
